/-
  The law's deep copy of a script. By an AI agent; no person has read it.
-/
import Derived.Test.YtoogammidjhfgaaDoorFvStC
set_option linter.unusedVariables false
set_option linter.unusedSimpArgs false
set_option linter.unusedSectionVars false
/-! The law's deep copy of a script. -/
namespace Go.Fv.Tr
open Go Go.Fv Go.Proofs
set_option linter.unusedSimpArgs false
set_option linter.unusedVariables false
variable {G : Nat → Option (List V)}

/-- How far a deep copy has come: the boxes of what is copied, of the answer, of the copy. -/
structure Cp (H0 H : Heap) (l row : List V) : Prop where
  fl : H.floor = 0
  nx : H0.next + 3 ≤ H.next
  b1 : H.blk H0.next = some ⟨8, [l]⟩
  b2 : ∃ z, H.blk (H0.next + 1) = some ⟨8, [z]⟩ ∧ z.length = 8
  b3 : H.blk (H0.next + 2) = some ⟨8, [row]⟩
  fr : Frame H0 H (fun _ => False)
theorem Cp.keep {H0 H H' : Heap} {l row : List V} (h : Cp H0 H l row) {p : Nat → Prop} (f : Frame H H' p) (hp : ∀ m, p m → H0.next + 3 ≤ m) : Cp H0 H' l row := by
  have no : ∀ m, m < H0.next + 3 → ¬ p m := fun m hm hq => by have := hp m hq; omega
  have := h.nx
  obtain ⟨z, hz, hl⟩ := h.b2
  exact ⟨f.floor.trans h.fl, Nat.le_trans h.nx f.next, (f.old _ (by omega) (no _ (by omega))).trans h.b1, ⟨z, (f.old _ (by omega) (no _ (by omega))).trans hz, hl⟩, (f.old _ (by omega) (no _ (by omega))).trans h.b3,
    ⟨Nat.le_trans h.fr.next f.next, f.floor.trans h.fr.floor, fun m hm _ => (f.old m (by omega) (no m (by omega))).trans (h.fr.old m hm id)⟩⟩
theorem Cp.put {H0 H : Heap} {l row : List V} (h : Cp H0 H l row) (row' : List V) : Cp H0 (H.set (H0.next + 2) ⟨8, [row']⟩) l row' := by
  have hn : ∀ m, m < H0.next + 2 → ¬ (m = H0.next + 2) := fun m hm => by omega
  obtain ⟨z, hz, hl⟩ := h.b2
  exact ⟨h.fl, h.nx, by rw [Heap.set_blk, if_neg (hn _ (by omega))]; exact h.b1, ⟨z, by rw [Heap.set_blk, if_neg (hn _ (by omega))]; exact hz, hl⟩, by rw [Heap.set_blk, if_pos rfl],
    ⟨h.fr.next, h.fr.floor, fun m hm _ => by rw [Heap.set_blk, if_neg (by omega)]; exact h.fr.old m hm id⟩⟩
/-- A list copied into memory of its own. -/
structure Ls (H0 H : Heap) (y : V) (sz : Nat) (rows : List (List V)) : Prop where
  own : Own H y sz rows
  ge : ∀ m, loc y = some m → H0.next + 3 ≤ m
theorem Ls.keep {H0 H H' : Heap} {y : V} {sz : Nat} {rows : List (List V)} (h : Ls H0 H y sz rows) {p : Nat → Prop} (f : Frame H H' p) (hp : ∀ m, loc y = some m → ¬ p m) : Ls H0 H' y sz rows := ⟨h.own.frame f hp, h.ge⟩
theorem Ls.put {H0 H : Heap} {y : V} {sz : Nat} {rows : List (List V)} (h : Ls H0 H y sz rows) (b : Blk) : Ls H0 (H.set (H0.next + 2) b) y sz rows :=
  h.keep (p := fun m => m = H0.next + 2) (Frame.set _ _ rfl) fun m hm e => by have := h.ge m hm; omega
theorem Run.appE {bytes : Nat} {H : Heap} {x : V} {sz : Nat} {rows : List (List V)} (hH : H.floor ≤ H.next) (hx : Sls x sz rows) (hr : rows.length * bytes ≤ room) :
    Run (appV sz bytes .emp x) H fun y H' => Own H' y sz rows ∧ Frame H H' (fun _ => False) ∧ ∀ m, loc y = some m → H.next ≤ m := by
  refine (Run.app hH (Own.emp H sz) (hx.items H) (by simpa using hr)).mono fun y H' ⟨o, f, l⟩ => ⟨by simpa using o, f.mono (fun m _ h => (by cases h)), fun m hm => (l m hm).resolve_left (by intro h; cases h)⟩
theorem Cp.app {H0 H : Heap} {l row : List V} (h : Cp H0 H l row) {bytes : Nat} {x : V} {sz : Nat} {rows : List (List V)} (hx : Sls x sz rows) (hr : rows.length * bytes ≤ room) :
    Run (appV sz bytes .emp x) H fun y H' => Cp H0 H' l row ∧ Ls H0 H' y sz rows ∧ Frame H H' (fun _ => False) ∧ ∀ m, loc y = some m → H.next ≤ m :=
  (Run.appE (by rw [h.fl]; exact Nat.zero_le _) hx hr).mono fun y H' ⟨o, f, g⟩ => ⟨h.keep f (fun _ e => e.elim), ⟨o, fun m hm => Nat.le_trans h.nx (g m hm)⟩, f, g⟩

theorem m1T : decide ((-1 : Int) < 0) = true := rfl
theorem nnF (k : Nat) : decide ((k : Int) < 0) = false := decide_eq_false (by omega)
/-- How many bytes each list of a script takes. -/
structure Fits (s : Sc) : Prop where
  h : s.homes.length * 8 ≤ room
  w : s.wins.length * 24 ≤ room
  k : s.links.length * 32 ≤ room
  i : s.ins.length * 40 ≤ room
  o : s.ops.length * 32 ≤ room
  p : s.parts.length * 120 ≤ room
  pp : ∀ p ∈ s.parts, p.pgs.length * 24 ≤ room ∧ p.prs.length * 24 ≤ room ∧ p.pts.length * 32 ≤ room ∧ p.sems.length * 8 ≤ room

/-- The same for a part: the box of the part, of its copy. -/
structure Cq (H0 H : Heap) (l row : List V) : Prop where
  fl : H.floor = 0
  nx : H0.next + 2 ≤ H.next
  b1 : H.blk H0.next = some ⟨7, [l]⟩
  b2 : H.blk (H0.next + 1) = some ⟨7, [row]⟩
  fr : Frame H0 H (fun _ => False)
theorem Cq.keep {H0 H H' : Heap} {l row : List V} (h : Cq H0 H l row) (f : Frame H H' (fun _ => False)) : Cq H0 H' l row := by
  have := h.nx
  exact ⟨f.floor.trans h.fl, Nat.le_trans h.nx f.next, (f.old _ (by omega) id).trans h.b1, (f.old _ (by omega) id).trans h.b2, h.fr.trans f (fun _ _ h => h) (fun _ _ h => h)⟩
theorem Cq.put {H0 H : Heap} {l row : List V} (h : Cq H0 H l row) (row' : List V) : Cq H0 (H.set (H0.next + 1) ⟨7, [row']⟩) l row' :=
  ⟨h.fl, h.nx, by rw [Heap.set_blk, if_neg (by omega)]; exact h.b1, by rw [Heap.set_blk, if_pos rfl],
    ⟨h.fr.next, h.fr.floor, fun m hm _ => by rw [Heap.set_blk, if_neg (by omega)]; exact h.fr.old m hm id⟩⟩
structure Lq (H0 H : Heap) (y : V) (sz : Nat) (rows : List (List V)) : Prop where
  own : Own H y sz rows
  ge : ∀ m, loc y = some m → H0.next + 2 ≤ m
theorem Lq.keep {H0 H H' : Heap} {y : V} {sz : Nat} {rows : List (List V)} (h : Lq H0 H y sz rows) (f : Frame H H' (fun _ => False)) : Lq H0 H' y sz rows := ⟨h.own.frame f fun _ _ => id, h.ge⟩
theorem Lq.put {H0 H : Heap} {y : V} {sz : Nat} {rows : List (List V)} (h : Lq H0 H y sz rows) (b : Blk) : Lq H0 (H.set (H0.next + 1) b) y sz rows :=
  ⟨h.own.frame (p := fun m => m = H0.next + 1) (Frame.set _ _ rfl) (fun m hm e => by have := h.ge m hm; omega), h.ge⟩
theorem Cq.app {H0 H : Heap} {l row : List V} (h : Cq H0 H l row) {bytes : Nat} {x : V} {sz : Nat} {rows : List (List V)} (hx : Sls x sz rows) (hr : rows.length * bytes ≤ room) :
    Run (appV sz bytes .emp x) H fun y H' => Cq H0 H' l row ∧ Lq H0 H' y sz rows ∧ Frame H H' (fun _ => False) :=
  (Run.appE (by rw [h.fl]; exact Nat.zero_le _) hx hr).mono fun y H' ⟨o, f, g⟩ => ⟨h.keep f, ⟨o, fun m hm => Nat.le_trans h.nx (g m hm)⟩, f⟩

theorem b6 (t u : Int) : buildV [.int .i64 0, .nils, .nils, .nils, .nils, .int .i64 0] [(0, 1, iV t), (5, 1, iV u)] = some (.agg [iV t, .nils, .nils, .nils, .nils, iV u]) := rfl
theorem b8 (t u : Int) : buildV [.int .i64 0, .nils, .nils, .nils, .nils, .int .i64 0, .nils, .nils] [(0, 6, .agg [iV t, .nils, .nils, .nils, .nils, iV u])] = some (.agg [iV t, .nils, .nils, .nils, .nils, iV u, .nils, .nils]) := rfl

set_option maxRecDepth 20000 in
theorem copy_run (n : Nat) {H : Heap} {l : List V} {s : Sc} {ps hs ws ks is os : V} {rows : List (List V)} (h : ScS l s ps hs ws ks is os rows) (hfit : Fits s) (hfl : H.floor = 0) :
    Run (callV (cfg G) (sem (cfg G) (n + 1)) 27 [.agg l]) H fun v H' => Frame H H' (fun _ => False) ∧ H'.floor = 0 ∧ ∃ l' ps' hs' ws' ks' is' os' rows', v = .agg l' ∧ ScR H' l' s ps' hs' ws' ks' is' os' rows' := by
  have hsm := h.small
  have hln := h.len
  obtain ⟨rfl, hp, hh, hw, hk', hi, ho, _, hrow, _, hbnd⟩ := h
  rw [callV_inl rfl, ferry_ferrylaw25_copyScript_eq]
  simp only [ferry_ferrylaw25_copyScript]
  have lp := hp.len
  rw [hln] at lp
  have n1 : ¬ (H.next = H.next + 1) := by omega
  have n2 : ¬ (H.next = H.next + 1 + 1) := by omega
  have n3 : ¬ (H.next + 1 = H.next + 1 + 1) := by omega
  (repeat' (first | (simp only [wp, extractV, exists_eq_left', if_true, if_false, ite_true, ite_false, reduceIte, Nat.reduceAdd, Nat.reduceLT, Nat.reduceLeDiff, Nat.reduceEqDiff, hfl, b6, b8, Run.slice0, n1, n2, n3]) | (with_reducible refine Run.gC ?_ ?_ <;> intro hb <;> try simp only [hb]) | (with_reducible refine Run.gG ?_ ?_ <;> intro hb <;> try simp only [hb]) | (with_reducible refine Run.gQ ?_ ?_ <;> intro hb <;> try simp only [hb])))
  have cp0 : Cp H (((H.add ⟨8, [[iV s.ticks, ps, hs, ws, ks, iV s.tries, is, os]]⟩).add ⟨8, [[.int .i64 0, .nils, .nils, .nils, .nils, .int .i64 0, .nils, .nils]]⟩).add ⟨8, [[.int .i64 0, .nils, .nils, .nils, .nils, .int .i64 0, .nils, .nils]]⟩) [iV s.ticks, ps, hs, ws, ks, iV s.tries, is, os] [.int .i64 0, .nils, .nils, .nils, .nils, .int .i64 0, .nils, .nils] :=
    ⟨hfl, Nat.le_refl _, by rw [Heap.add_blk, if_neg (by exact n2), Heap.add_blk, if_neg (by exact n1), Heap.add_blk, if_pos rfl], ⟨_, by rw [Heap.add_blk, if_neg (by exact n3)]; exact if_pos rfl, rfl⟩, if_pos rfl,
      ((Frame.add _ _).trans (Frame.add _ _) (fun _ _ h => h) (fun _ _ h => h)).trans (Frame.add _ _) (fun _ _ h => h) (fun _ _ h => h)⟩
  have cp1 := cp0.put [iV s.ticks, .nils, .nils, .nils, .nils, iV s.tries, .nils, .nils]
  refine (cp1.app (bytes := 8) hh (by rw [List.length_map]; exact hfit.h)).mono fun y1 H1 ⟨cp2, q1, f1, g1⟩ => ?_
  (repeat' (first | (simp only [wp, extractV, exists_eq_left', if_true, if_false, ite_true, ite_false, reduceIte, Nat.reduceAdd, Nat.reduceLT, Nat.reduceLeDiff, Nat.reduceEqDiff, cp2.fl, cp2.b1, cp2.b3, q1.own.rd.cells, Run.slice0]) | (with_reducible refine Run.gC ?_ ?_ <;> intro hb <;> try simp only [hb]) | (with_reducible refine Run.gG ?_ ?_ <;> intro hb <;> try simp only [hb]) | (with_reducible refine Run.gQ ?_ ?_ <;> intro hb <;> try simp only [hb])))
  have cp3 := cp2.put [iV s.ticks, .nils, y1, .nils, .nils, iV s.tries, .nils, .nils]
  refine (cp3.app (bytes := 24) hw (by rw [List.length_map]; exact hfit.w)).mono fun y2 H2 ⟨cp4, q2, f2, g2⟩ => ?_
  have q1 := (q1.put ⟨8, [[iV s.ticks, .nils, y1, .nils, .nils, iV s.tries, .nils, .nils]]⟩).keep f2 (fun _ _ => id)
  (repeat' (first | (simp only [wp, extractV, exists_eq_left', if_true, if_false, ite_true, ite_false, reduceIte, Nat.reduceAdd, Nat.reduceLT, Nat.reduceLeDiff, Nat.reduceEqDiff, cp4.fl, cp4.b1, cp4.b3, q2.own.rd.cells, Run.slice0]) | (with_reducible refine Run.gC ?_ ?_ <;> intro hb <;> try simp only [hb]) | (with_reducible refine Run.gG ?_ ?_ <;> intro hb <;> try simp only [hb]) | (with_reducible refine Run.gQ ?_ ?_ <;> intro hb <;> try simp only [hb])))
  have cp5 := cp4.put [iV s.ticks, .nils, y1, y2, .nils, iV s.tries, .nils, .nils]
  refine (cp5.app (bytes := 32) hk' (by rw [List.length_map]; exact hfit.k)).mono fun y3 H3 ⟨cp6, q3, f3, g3⟩ => ?_
  have q1 := (q1.put ⟨8, [[iV s.ticks, .nils, y1, y2, .nils, iV s.tries, .nils, .nils]]⟩).keep f3 (fun _ _ => id)
  have q2 := (q2.put ⟨8, [[iV s.ticks, .nils, y1, y2, .nils, iV s.tries, .nils, .nils]]⟩).keep f3 (fun _ _ => id)
  (repeat' (first | (simp only [wp, extractV, exists_eq_left', if_true, if_false, ite_true, ite_false, reduceIte, Nat.reduceAdd, Nat.reduceLT, Nat.reduceLeDiff, Nat.reduceEqDiff, cp6.fl, cp6.b1, cp6.b3, q3.own.rd.cells, Run.slice0]) | (with_reducible refine Run.gC ?_ ?_ <;> intro hb <;> try simp only [hb]) | (with_reducible refine Run.gG ?_ ?_ <;> intro hb <;> try simp only [hb]) | (with_reducible refine Run.gQ ?_ ?_ <;> intro hb <;> try simp only [hb])))
  have cp7 := cp6.put [iV s.ticks, .nils, y1, y2, y3, iV s.tries, .nils, .nils]
  refine (cp7.app (bytes := 40) hi (by rw [List.length_map]; exact hfit.i)).mono fun y4 H4 ⟨cp8, q4, f4, g4⟩ => ?_
  have q1 := (q1.put ⟨8, [[iV s.ticks, .nils, y1, y2, y3, iV s.tries, .nils, .nils]]⟩).keep f4 (fun _ _ => id)
  have q2 := (q2.put ⟨8, [[iV s.ticks, .nils, y1, y2, y3, iV s.tries, .nils, .nils]]⟩).keep f4 (fun _ _ => id)
  have q3 := (q3.put ⟨8, [[iV s.ticks, .nils, y1, y2, y3, iV s.tries, .nils, .nils]]⟩).keep f4 (fun _ _ => id)
  (repeat' (first | (simp only [wp, extractV, exists_eq_left', if_true, if_false, ite_true, ite_false, reduceIte, Nat.reduceAdd, Nat.reduceLT, Nat.reduceLeDiff, Nat.reduceEqDiff, cp8.fl, cp8.b1, cp8.b3, q4.own.rd.cells, Run.slice0]) | (with_reducible refine Run.gC ?_ ?_ <;> intro hb <;> try simp only [hb]) | (with_reducible refine Run.gG ?_ ?_ <;> intro hb <;> try simp only [hb]) | (with_reducible refine Run.gQ ?_ ?_ <;> intro hb <;> try simp only [hb])))
  have cp9 := cp8.put [iV s.ticks, .nils, y1, y2, y3, iV s.tries, y4, .nils]
  refine (cp9.app (bytes := 32) ho (by rw [List.length_map]; exact hfit.o)).mono fun y5 H5 ⟨cpA, q5, f5, g5⟩ => ?_
  have q1 := (q1.put ⟨8, [[iV s.ticks, .nils, y1, y2, y3, iV s.tries, y4, .nils]]⟩).keep f5 (fun _ _ => id)
  have q2 := (q2.put ⟨8, [[iV s.ticks, .nils, y1, y2, y3, iV s.tries, y4, .nils]]⟩).keep f5 (fun _ _ => id)
  have q3 := (q3.put ⟨8, [[iV s.ticks, .nils, y1, y2, y3, iV s.tries, y4, .nils]]⟩).keep f5 (fun _ _ => id)
  have q4 := (q4.put ⟨8, [[iV s.ticks, .nils, y1, y2, y3, iV s.tries, y4, .nils]]⟩).keep f5 (fun _ _ => id)
  (repeat' (first | (simp only [wp, extractV, exists_eq_left', if_true, if_false, ite_true, ite_false, reduceIte, Nat.reduceAdd, Nat.reduceLT, Nat.reduceLeDiff, Nat.reduceEqDiff, cpA.fl, cpA.b1, cpA.b3, q5.own.rd.cells, lp]) | (with_reducible refine Run.gC ?_ ?_ <;> intro hb <;> try simp only [hb]) | (with_reducible refine Run.gG ?_ ?_ <;> intro hb <;> try simp only [hb]) | (with_reducible refine Run.gQ ?_ ?_ <;> intro hb <;> try simp only [hb])))
  have cpB := cpA.put [iV s.ticks, .nils, y1, y2, y3, iV s.tries, y4, y5]
  have q1 := q1.put ⟨8, [[iV s.ticks, .nils, y1, y2, y3, iV s.tries, y4, y5]]⟩
  have q2 := q2.put ⟨8, [[iV s.ticks, .nils, y1, y2, y3, iV s.tries, y4, y5]]⟩
  have q3 := q3.put ⟨8, [[iV s.ticks, .nils, y1, y2, y3, iV s.tries, y4, y5]]⟩
  have q4 := q4.put ⟨8, [[iV s.ticks, .nils, y1, y2, y3, iV s.tries, y4, y5]]⟩
  have q5 := q5.put ⟨8, [[iV s.ticks, .nils, y1, y2, y3, iV s.tries, y4, y5]]⟩
  refine Run.loop (N := s.parts.length) (fun k st Hk => st = [iV k] ∧ ∃ x rk, Cp H Hk [iV s.ticks, ps, hs, ws, ks, iV s.tries, is, os] [iV s.ticks, x, y1, y2, y3, iV s.tries, y4, y5] ∧ Own Hk x 7 rk ∧ (∀ m, loc x = some m → H5.next ≤ m) ∧ rk.length = k ∧ H5.next ≤ Hk.next ∧
      (∀ (j : Nat) (hj : j < rk.length) (hp : j < s.parts.length), PlR Hk (fun m => loc x ≠ some m ∧ H5.next ≤ m) rk[j] s.parts[j]) ∧
      Own Hk y1 1 (s.homes.map iR) ∧ Own Hk y2 3 (s.wins.map wnR) ∧ Own Hk y3 4 (s.links.map q4R) ∧ Own Hk y4 4 (s.ins.map inpR) ∧ Own Hk y5 4 (s.ops.map q4R))
    ⟨rfl, .nils, [], cpB, Own.nils _ _, fun m hm => (by cases hm), rfl, Nat.le_refl _, fun j hj => absurd hj (Nat.not_lt_zero _), q1.own, q2.own, q3.own, q4.own, q5.own⟩ ?_
  have lt1 : ∀ m, loc y1 = some m → m < H5.next := fun m hm => q1.own.lt hm
  have lt2 : ∀ m, loc y2 = some m → m < H5.next := fun m hm => q2.own.lt hm
  have lt3 : ∀ m, loc y3 = some m → m < H5.next := fun m hm => q3.own.lt hm
  have lt4 : ∀ m, loc y4 = some m → m < H5.next := fun m hm => q4.own.lt hm
  have lt5 : ∀ m, loc y5 = some m → m < H5.next := fun m hm => q5.own.lt hm
  rintro k st Hk hk ⟨rfl, x, rk, cp, ox, gx, hrk, hNk, hPl, o1, o2, o3, o4, o5⟩
  simp only [ferry_ferrylaw25_copyScript_l1]
  by_cases hlt : k < s.parts.length
  · have hlr : k < rows.length := by omega
    have hix := hp.idx (k := .i64) (i := k) hlr
    obtain ⟨a, b, c, d, hr, ra, rb, rc, rd⟩ := hrow k hlr
    rw [hr] at hix
    have hpb := hfit.pp _ (List.getElem_mem hlt)
    have m1 : ¬ (Hk.next = Hk.next + 1) := by omega
    (repeat' (first | (simp only [wp, extractV, exists_eq_left', if_true, if_false, ite_true, ite_false, reduceIte, Nat.reduceAdd, Nat.reduceLT, Nat.reduceLeDiff, Nat.reduceEqDiff, nltT hlt, hix, cp.fl, m1, Run.slice0]) | (with_reducible refine Run.gC ?_ ?_ <;> intro hb <;> try simp only [hb]) | (with_reducible refine Run.gG ?_ ?_ <;> intro hb <;> try simp only [hb]) | (with_reducible refine Run.gQ ?_ ?_ <;> intro hb <;> try simp only [hb])))
    have cq0 : Cq Hk ((((Hk.add ⟨7, [[V.int IntKind.i64 0, V.bool false, V.nils, V.nils, V.nils, V.int IntKind.i64 0, V.nils]]⟩).set Hk.next ⟨7, [[iV s.parts[k].id, V.bool s.parts[k].mob, a, b, c, iV s.parts[k].ev, d]]⟩).add ⟨7, [[V.int IntKind.i64 0, V.bool false, V.nils, V.nils, V.nils, V.int IntKind.i64 0, V.nils]]⟩).set
        (Hk.next + 1) ⟨7, [[iV s.parts[k].id, V.bool s.parts[k].mob, a, b, c, iV s.parts[k].ev, d]]⟩) [iV s.parts[k].id, V.bool s.parts[k].mob, a, b, c, iV s.parts[k].ev, d] [iV s.parts[k].id, V.bool s.parts[k].mob, a, b, c, iV s.parts[k].ev, d] :=
      ⟨cp.fl, Nat.le_refl _, by
        rw [Heap.set_blk, if_neg m1, Heap.add_blk, if_neg (by exact m1), Heap.set_blk, if_pos rfl], by rw [Heap.set_blk, if_pos rfl],
        ⟨Nat.le_add_right _ 2, rfl, fun m hm _ => by
          rw [Heap.set_blk, if_neg (by omega), Heap.add_blk, if_neg (by show ¬ (m = Hk.next + 1); omega), Heap.set_blk, if_neg (by omega), Heap.add_blk, if_neg (by omega)]⟩⟩
    refine (cq0.app (bytes := 24) ra (by rw [List.length_map]; exact hpb.1)).mono fun z1 K1 ⟨cq1, r1, e1⟩ => ?_
    (repeat' (first | (simp only [wp, extractV, exists_eq_left', if_true, if_false, ite_true, ite_false, reduceIte, Nat.reduceAdd, Nat.reduceLT, Nat.reduceLeDiff, Nat.reduceEqDiff, cq1.fl, cq1.b1, cq1.b2, r1.own.rd.cells, Run.slice0]) | (with_reducible refine Run.gC ?_ ?_ <;> intro hb <;> try simp only [hb]) | (with_reducible refine Run.gG ?_ ?_ <;> intro hb <;> try simp only [hb]) | (with_reducible refine Run.gQ ?_ ?_ <;> intro hb <;> try simp only [hb])))
    have cq2 := cq1.put [iV s.parts[k].id, V.bool s.parts[k].mob, z1, b, c, iV s.parts[k].ev, d]
    refine (cq2.app (bytes := 24) rb (by rw [List.length_map]; exact hpb.2.1)).mono fun z2 K2 ⟨cq3, r2, e2⟩ => ?_
    have r1 := (r1.put ⟨7, [[iV s.parts[k].id, V.bool s.parts[k].mob, z1, b, c, iV s.parts[k].ev, d]]⟩).keep e2
    (repeat' (first | (simp only [wp, extractV, exists_eq_left', if_true, if_false, ite_true, ite_false, reduceIte, Nat.reduceAdd, Nat.reduceLT, Nat.reduceLeDiff, Nat.reduceEqDiff, cq3.fl, cq3.b1, cq3.b2, r2.own.rd.cells, Run.slice0]) | (with_reducible refine Run.gC ?_ ?_ <;> intro hb <;> try simp only [hb]) | (with_reducible refine Run.gG ?_ ?_ <;> intro hb <;> try simp only [hb]) | (with_reducible refine Run.gQ ?_ ?_ <;> intro hb <;> try simp only [hb])))
    have cq4 := cq3.put [iV s.parts[k].id, V.bool s.parts[k].mob, z1, z2, c, iV s.parts[k].ev, d]
    refine (cq4.app (bytes := 32) rc (by rw [List.length_map]; exact hpb.2.2.1)).mono fun z3 K3 ⟨cq5, r3, e3⟩ => ?_
    have r1 := (r1.put ⟨7, [[iV s.parts[k].id, V.bool s.parts[k].mob, z1, z2, c, iV s.parts[k].ev, d]]⟩).keep e3
    have r2 := (r2.put ⟨7, [[iV s.parts[k].id, V.bool s.parts[k].mob, z1, z2, c, iV s.parts[k].ev, d]]⟩).keep e3
    (repeat' (first | (simp only [wp, extractV, exists_eq_left', if_true, if_false, ite_true, ite_false, reduceIte, Nat.reduceAdd, Nat.reduceLT, Nat.reduceLeDiff, Nat.reduceEqDiff, cq5.fl, cq5.b1, cq5.b2, r3.own.rd.cells, Run.slice0]) | (with_reducible refine Run.gC ?_ ?_ <;> intro hb <;> try simp only [hb]) | (with_reducible refine Run.gG ?_ ?_ <;> intro hb <;> try simp only [hb]) | (with_reducible refine Run.gQ ?_ ?_ <;> intro hb <;> try simp only [hb])))
    have cq6 := cq5.put [iV s.parts[k].id, V.bool s.parts[k].mob, z1, z2, z3, iV s.parts[k].ev, d]
    refine (cq6.app (bytes := 8) rd (by rw [List.length_map]; exact hpb.2.2.2)).mono fun z4 K4 ⟨cq7, r4, e4⟩ => ?_
    have r1 := (r1.put ⟨7, [[iV s.parts[k].id, V.bool s.parts[k].mob, z1, z2, z3, iV s.parts[k].ev, d]]⟩).keep e4
    have r2 := (r2.put ⟨7, [[iV s.parts[k].id, V.bool s.parts[k].mob, z1, z2, z3, iV s.parts[k].ev, d]]⟩).keep e4
    have r3 := (r3.put ⟨7, [[iV s.parts[k].id, V.bool s.parts[k].mob, z1, z2, z3, iV s.parts[k].ev, d]]⟩).keep e4
    have cq8 := cq7.put [iV s.parts[k].id, V.bool s.parts[k].mob, z1, z2, z3, iV s.parts[k].ev, z4]
    have r1 := r1.put ⟨7, [[iV s.parts[k].id, V.bool s.parts[k].mob, z1, z2, z3, iV s.parts[k].ev, z4]]⟩
    have r2 := r2.put ⟨7, [[iV s.parts[k].id, V.bool s.parts[k].mob, z1, z2, z3, iV s.parts[k].ev, z4]]⟩
    have r3 := r3.put ⟨7, [[iV s.parts[k].id, V.bool s.parts[k].mob, z1, z2, z3, iV s.parts[k].ev, z4]]⟩
    have r4' := r4.put ⟨7, [[iV s.parts[k].id, V.bool s.parts[k].mob, z1, z2, z3, iV s.parts[k].ev, z4]]⟩
    have cpk := cp.keep cq8.fr (fun _ e => e.elim)
    have t1 := cpk.b1
    have t3 := cpk.b3
    rw [Heap.set_blk, if_neg (by have := cp.nx; omega)] at t1 t3
    have m3 : ¬ (H.next + 1 + 1 = Hk.next + 1) := by have := cp.nx; omega
    have m4 : ¬ (H.next + 1 = Hk.next) := by have := cp.nx; omega
    (repeat' (first | (simp only [wp, extractV, exists_eq_left', if_true, if_false, ite_true, ite_false, reduceIte, Nat.reduceAdd, Nat.reduceLT, Nat.reduceLeDiff, Nat.reduceEqDiff, cq7.fl, cq7.b1, cq7.b2, r4.own.rd.cells, t3, m3, m4]) | (with_reducible refine Run.gC ?_ ?_ <;> intro hb <;> try simp only [hb]) | (with_reducible refine Run.gG ?_ ?_ <;> intro hb <;> try simp only [hb]) | (with_reducible refine Run.gQ ?_ ?_ <;> intro hb <;> try simp only [hb])))
    refine Run.slice.2 ⟨[[iV s.parts[k].id, V.bool s.parts[k].mob, z1, z2, z3, iV s.parts[k].ev, z4]], rfl, ?_⟩
    generalize hK : K4.set (Hk.next + 1) ⟨7, [[iV s.parts[k].id, V.bool s.parts[k].mob, z1, z2, z3, iV s.parts[k].ev, z4]]⟩ = K5 at *
    have fA : Frame Hk (K5.add ⟨7, [[iV s.parts[k].id, V.bool s.parts[k].mob, z1, z2, z3, iV s.parts[k].ev, z4]]⟩) (fun _ => False) := cq8.fr.trans (Frame.add _ _) (fun _ _ h => h) (fun _ _ h => h)
    have hfA : (K5.add ⟨7, [[iV s.parts[k].id, V.bool s.parts[k].mob, z1, z2, z3, iV s.parts[k].ev, z4]]⟩).floor = 0 := cq8.fl
    have hnA : Hk.next + 2 ≤ K5.next := cq8.nx
    have hB3 : H.next + 3 ≤ H5.next := cpB.nx
    refine (Run.app (by rw [hfA]; exact Nat.zero_le _) (ox.frame fA (fun _ _ => id)) (y := .ref K5.next 7 0 1 1 true) (items := [[iV s.parts[k].id, V.bool s.parts[k].mob, z1, z2, z3, iV s.parts[k].ev, z4]]) (by simp [itemsV, Heap.add_blk]) (by
      have := hfit.p
      have h1 : (rk.length + 1) * 120 ≤ s.parts.length * 120 := Nat.mul_le_mul_right _ (by omega)
      exact Nat.le_trans h1 this)).mono fun x' H' ⟨ox', fx, lx⟩ => ?_
    have cpE := (cp.keep fA (fun _ e => e.elim)).keep fx (fun m hm => Nat.le_trans hB3 (gx m hm))
    have nox : ∀ m, m < H5.next → ¬ (loc x = some m) := fun m hm e => by have := gx m e; omega
    have nx' : ∀ m, loc x' = some m → H5.next ≤ m := fun m hm => by
      rcases lx m hm with h | h
      · exact gx m h
      · have : H5.next ≤ K5.next + 1 := by omega
        exact Nat.le_trans this h
    (repeat' (first | (simp only [wp, extractV, exists_eq_left', if_true, if_false, ite_true, ite_false, reduceIte, Nat.reduceAdd, Nat.reduceLT, Nat.reduceLeDiff, Nat.reduceEqDiff, cpE.fl, cpE.b3, ox'.rd.cells, nadd hlt hsm]) | (with_reducible refine Run.gC ?_ ?_ <;> intro hb <;> try simp only [hb]) | (with_reducible refine Run.gG ?_ ?_ <;> intro hb <;> try simp only [hb]) | (with_reducible refine Run.gQ ?_ ?_ <;> intro hb <;> try simp only [hb])))
    have cpF := cpE.put [iV s.ticks, x', y1, y2, y3, iV s.tries, y4, y5]
    have fp : Frame H' (H'.set (H.next + 2) ⟨8, [[iV s.ticks, x', y1, y2, y3, iV s.tries, y4, y5]]⟩) (fun m => m = H.next + 2) := Frame.set _ _ rfl
    have keepY : ∀ {y : V} {sz : Nat} {rs : List (List V)}, Own Hk y sz rs → (∀ m, loc y = some m → m < H5.next) → (∀ m, loc y = some m → H.next + 3 ≤ m) → Own (H'.set (H.next + 2) ⟨8, [[iV s.ticks, x', y1, y2, y3, iV s.tries, y4, y5]]⟩) y sz rs := fun o h1 h2 =>
      ((o.frame fA (fun _ _ => id)).frame fx (fun m hm => nox m (h1 m hm))).frame fp (fun m hm e => by have := h2 m hm; omega)
    have ltx : ∀ m, loc x = some m → m < Hk.next := fun m hm => ox.lt hm
    refine ⟨hlt, x', rk ++ [[iV s.parts[k].id, V.bool s.parts[k].mob, z1, z2, z3, iV s.parts[k].ev, z4]], cpF, ?_, nx', by rw [List.length_append, hrk]; rfl, ?_, ?_, keepY o1 lt1 q1.ge, keepY o2 lt2 q2.ge, keepY o3 lt3 q3.ge, keepY o4 lt4 q4.ge, keepY o5 lt5 q5.ge⟩
    · exact ox'.frame fp (fun m hm e => by have := nx' m hm; omega)
    · have h1 := fx.next
      have h2 : K5.next + 1 ≤ H'.next := h1
      show H5.next ≤ H'.next
      omega
    · intro j hj hp'
      have ne' : ∀ m, loc x ≠ some m → m < K5.next + 1 → loc x' ≠ some m := fun m hm hlt' e => by
        rcases lx m e with h | h
        · exact hm h
        · have : K5.next + 1 ≤ m := h
          omega
      have zz : ∀ {y : V} {sz : Nat} {rs : List (List V)}, Lq Hk K5 y sz rs → Rd (H'.set (H.next + 2) ⟨8, [[iV s.ticks, x', y1, y2, y3, iV s.tries, y4, y5]]⟩) y sz rs ∧ ∀ m, loc y = some m → loc x' ≠ some m ∧ H5.next ≤ m := fun {y sz rs} h =>
        ⟨((h.own.frame (Frame.add _ (fun _ => False)) (fun _ _ => id)).frame fx (fun m hm e => by have := h.ge m hm; have := ltx m e; omega) |>.frame fp (fun m hm e => by have := h.ge m hm; omega)).rd,
         fun m hm => ⟨ne' m (fun e => by have := h.ge m hm; have := ltx m e; omega) (by have := h.own.lt hm; omega), by have := h.ge m hm; omega⟩⟩
      by_cases hjk : j < rk.length
      · rw [List.getElem_append_left hjk]
        have h0 := ((hPl j hjk hp').imp (q' := fun m => (loc x ≠ some m ∧ H5.next ≤ m) ∧ m < Hk.next) (fun m hm hq => ⟨hq, hm⟩)).frame fA (fun _ _ => id)
        have h1 := (h0.frame fx (fun m hm e => hm.1.1 e)).frame fp (fun m hm e => by have := hm.1.2; omega)
        exact h1.imp fun m _ hm => ⟨ne' m hm.1.1 (by have := hm.2; omega), hm.1.2⟩
      · have hjl : j < rk.length + 1 := by simpa using hj
        have hjk' : j = k := by omega
        subst hjk'
        have hg : (rk ++ [[iV s.parts[j].id, V.bool s.parts[j].mob, z1, z2, z3, iV s.parts[j].ev, z4]])[j] = [iV s.parts[j].id, V.bool s.parts[j].mob, z1, z2, z3, iV s.parts[j].ev, z4] := by
          rw [List.getElem_append_right (by omega)]
          simp
        rw [hg]
        obtain ⟨w1, v1⟩ := zz r1
        obtain ⟨w2, v2⟩ := zz r2
        obtain ⟨w3, v3⟩ := zz r3
        obtain ⟨w4, v4⟩ := zz r4'
        exact ⟨z1, z2, z3, z4, rfl, w1, w2, w3, w4, v1, v2, v3, v4⟩
  · have hkl : k = s.parts.length := by omega
    obtain ⟨zr, hz2, hz8⟩ := cp.b2
    have l3 : ([iV s.ticks, x, y1, y2, y3, iV s.tries, y4, y5] : List V).length = 8 := rfl
    have tk8 : zr.take 0 = [] := rfl
    have dp8 : zr.drop 8 = [] := List.drop_of_length_le (by omega)
    have hz8' : 8 ≤ zr.length := by omega
    (repeat' (first | (simp only [wp, extractV, exists_eq_left', if_true, if_false, ite_true, ite_false, reduceIte, Nat.reduceAdd, Nat.reduceLT, Nat.reduceLeDiff, Nat.reduceEqDiff, nltF hlt, cp.fl, cp.b3, hz2, hz8', dp8]) | (with_reducible refine Run.gC ?_ ?_ <;> intro hb <;> try simp only [hb]) | (with_reducible refine Run.gG ?_ ?_ <;> intro hb <;> try simp only [hb]) | (with_reducible refine Run.gQ ?_ ?_ <;> intro hb <;> try simp only [hb])))
    have fz : Frame Hk (Hk.set (H.next + 1) ⟨8, [[iV s.ticks, x, y1, y2, y3, iV s.tries, y4, y5]]⟩) (fun m => m = H.next + 1) := Frame.set _ _ rfl
    have hB3 : H.next + 3 ≤ H5.next := cpB.nx
    have kp : ∀ {y : V} {sz : Nat} {rs : List (List V)}, Own Hk y sz rs → (∀ m, loc y = some m → H.next + 3 ≤ m) → Rd (Hk.set (H.next + 1) ⟨8, [[iV s.ticks, x, y1, y2, y3, iV s.tries, y4, y5]]⟩) y sz rs := fun o h1 =>
      (o.frame fz (fun m hm e => by have := h1 m hm; omega)).rd
    refine ⟨⟨cp.fr.next, cp.fr.floor, fun m hm _ => ?_⟩, _, x, y1, y2, y3, y4, y5, rk, rfl, rfl, kp ox (fun m hm => Nat.le_trans hB3 (gx m hm)), kp o1 q1.ge, kp o2 q2.ge, kp o3 q3.ge, kp o4 q4.ge, kp o5 q5.ge, hrk.trans hkl, ?_, hsm, hbnd⟩
    · rw [Heap.set_blk, if_neg (by omega)]
      exact cp.fr.old m hm id
    · intro j hj
      have h0 := hPl j hj (by omega)
      exact (h0.frame fz (fun m hm e => by have := hm.2; omega)).imp fun _ _ _ => trivial
end Go.Fv.Tr
