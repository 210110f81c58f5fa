/-
  A table laid into a state. By an AI agent; no person has read it.
-/
import Derived.Test.YtjjiphigolegbaaDoorFvSuC
set_option linter.unusedVariables false
set_option linter.unusedSimpArgs false
set_option linter.unusedSectionVars false
/-! A table laid into a state. -/
namespace Go.Fv.Tr
open Go Go.Fv Go.Fv.Pl Go.Proofs
set_option linter.unusedSimpArgs false
set_option linter.unusedVariables false
variable {G : Nat → Option (List V)}

/-- How far a state is copied: the boxes of the state, of the table, of the answer. -/
structure Ci (H0 H : Heap) (row : List V) : Prop where
  fl : H.floor = 0
  nx : H0.next + 3 ≤ H.next
  b2 : H.blk H0.next = some ⟨10, [row]⟩
  b4 : ∃ z, H.blk (H0.next + 2) = some ⟨10, [z]⟩ ∧ z.length = 10
  fr : Frame H0 H (fun _ => False)
theorem Ci.keep {H0 H H' : Heap} {row : List V} (h : Ci H0 H row) {p : Nat → Prop} (f : Frame H H' p) (hp : ∀ m, p m → H0.next + 3 ≤ m) : Ci H0 H' row := by
  have no : ∀ m, m < H0.next + 3 → ¬ p m := fun m hm hq => by have := hp m hq; omega
  have := h.nx
  obtain ⟨z, hz, hl⟩ := h.b4
  exact ⟨f.floor.trans h.fl, Nat.le_trans h.nx f.next, (f.old _ (by omega) (no _ (by omega))).trans h.b2, ⟨z, (f.old _ (by omega) (no _ (by omega))).trans hz, hl⟩,
    ⟨Nat.le_trans h.fr.next f.next, f.floor.trans h.fr.floor, fun m hm _ => (f.old m (by omega) (no m (by omega))).trans (h.fr.old m hm id)⟩⟩
theorem Ci.put {H0 H : Heap} {row : List V} (h : Ci H0 H row) (row' : List V) : Ci H0 (H.set H0.next ⟨10, [row']⟩) row' := by
  obtain ⟨z, hz, hl⟩ := h.b4
  exact ⟨h.fl, h.nx, by rw [Heap.set_blk, if_pos rfl], ⟨z, by rw [Heap.set_blk, if_neg (by omega)]; exact hz, hl⟩, h.fr.st (Nat.le_refl _) _⟩
theorem _root_.Go.Fv.Rd.put {H : Heap} {y : V} {sz : Nat} {rows : List (List V)} (h : Rd H y sz rows) {l : Nat} (b : Blk) (hl : loc y ≠ some l) : Rd (H.set l b) y sz rows :=
  h.frame (p := fun m => m = l) (Frame.set _ _ rfl) fun m hm e => hl (by rw [hm, e])

theorem RdTab.put {H : Heap} {q : Nat → Prop} {x y z : V} {t : Tab} (h : RdTab H q x y z t) {l : Nat} (b : Blk) (hl : ∀ m, q m → m ≠ l) : RdTab (H.set l b) q x y z t :=
  h.frame (r := fun m => m = l) (Frame.set _ _ rfl) hl
/-- A list that is kept at fresh places. -/
structure Kp (H0 H : Heap) (y : V) (sz : Nat) (rows : List (List V)) : Prop where
  rd : Rd H y sz rows
  ge : ∀ m, loc y = some m → H0.next + 3 ≤ m
theorem Kp.keep {H0 H H' : Heap} {y : V} {sz : Nat} {rows : List (List V)} (h : Kp H0 H y sz rows) (f : Frame H H' (fun _ => False)) : Kp H0 H' y sz rows := ⟨h.rd.frame f fun _ _ => id, h.ge⟩
theorem Kp.put {H0 H : Heap} {y : V} {sz : Nat} {rows : List (List V)} (h : Kp H0 H y sz rows) {l : Nat} (hl : l < H0.next + 3) (b : Blk) : Kp H0 (H.set l b) y sz rows :=
  ⟨h.rd.put b fun e => by have := h.ge _ e; omega, h.ge⟩
theorem Kp.of {H0 H H' : Heap} {y : V} {sz : Nat} {rows : List (List V)} (hn : H0.next + 3 ≤ H.next) (h : New H sz rows y H') : Kp H0 H' y sz rows := ⟨h.1.rd, fun m hm => Nat.le_trans hn (h.2.2 m hm)⟩

set_option maxRecDepth 20000 in
theorem into_run (n : Nat) {H : Heap} {q q' : Nat → Prop} {l : List V} {s : Sd} {x y z a b c d x0 y0 z0 : V} {pr : List (List V)} {t : Tab} (h : RdSt H q l s x y z a b c d pr) (hs : SB s) (h2 : RdTab H q' x0 y0 z0 t) (ht : TB t) (hfl : H.floor = 0) :
    Run (callV (cfg G) (sem (cfg G) (n + 3)) 24 [.agg l, .agg [x0, y0, z0]]) H fun v H' => Frame H H' (fun _ => False) ∧
      ∃ l' x' y' z' a' b' c' d' pr', v = .agg l' ∧ RdSt H' (fun m => H.next ≤ m) l' { s with t := t } x' y' z' a' b' c' d' pr' := by
  have hpl := h.plen
  have hprow := h.prow
  obtain ⟨rfl, hst, hup, hsm, hpo, hpg, _, _, _, _, _, _⟩ := h
  rw [callV_inl rfl, ferry_ready_Into_eq]
  simp only [ferry_ready_Into]
  have n1 : ¬ (H.next = H.next + 1) := by omega
  have n2 : ¬ (H.next = H.next + 1 + 1) := by omega
  have n3 : ¬ (H.next + 1 = H.next + 1 + 1) := by omega
  (repeat' (first | (simp only [wp, extractV, exists_eq_left', if_true, if_false, ite_true, ite_false, reduceIte, Nat.reduceAdd, Nat.reduceLT, Nat.reduceLeDiff, Nat.reduceEqDiff, hfl, n1, n2, n3]) | (with_reducible refine Run.gC ?_ ?_ <;> intro hb <;> try simp only [hb]) | (with_reducible refine Run.gG ?_ ?_ <;> intro hb <;> try simp only [hb]) | (with_reducible refine Run.gQ ?_ ?_ <;> intro hb <;> try simp only [hb])))
  have c0 : Ci H (((H.add ⟨10, [[i64 s.id, i64 s.fr, i64 s.ep, x, y, z, a, b, c, d]]⟩).add ⟨3, [[x0, y0, z0]]⟩).add ⟨10, [[.int .i64 0, .int .i64 0, .int .i64 0, .nils, .nils, .nils, .nils, .nils, .nils, .nils]]⟩) [i64 s.id, i64 s.fr, i64 s.ep, x, y, z, a, b, c, d] :=
    ⟨hfl, Nat.le_refl _, by rw [Heap.add_blk, if_neg (by exact n2), Heap.add_blk, if_neg (by exact n1), Heap.add_blk, if_pos rfl], ⟨_, if_pos rfl, rfl⟩, ((Frame.add _ _).ad _).ad _⟩
  refine (copied_run (n + 0) (h2.frame c0.fr (fun _ _ => id)) ht (by rw [c0.fl]; exact Nat.zero_le _)).mono fun v H1 ⟨x1, y1, z1, e1, o1, f1, l1⟩ => ?_
  subst e1
  have c1 := c0.keep f1 (fun _ e => e.elim)
  have g1 : RdTab H1 (fun m => H.next + 3 ≤ m) x1 y1 z1 t := ⟨o1.p.rd, o1.q.rd, o1.s.rd, fun m hm => Nat.le_trans c0.nx (l1 m (.inl hm)), fun m hm => Nat.le_trans c0.nx (l1 m (.inr (.inl hm))), fun m hm => Nat.le_trans c0.nx (l1 m (.inr (.inr hm)))⟩
  have m1 : ¬ (H1.next = H.next) := by have := c1.nx; omega
  have m2 : ¬ (H.next = H1.next) := by have := c1.nx; omega
  (repeat' (first | (simp only [wp, extractV, exists_eq_left', if_true, if_false, ite_true, ite_false, reduceIte, Nat.reduceAdd, Nat.reduceLT, Nat.reduceLeDiff, Nat.reduceEqDiff, c1.fl, c1.b2, m1, m2, apartV, g1.rp.cells, g1.rq.cells, g1.rs.cells]) | (with_reducible refine Run.gC ?_ ?_ <;> intro hb <;> try simp only [hb]) | (with_reducible refine Run.gG ?_ ?_ <;> intro hb <;> try simp only [hb]) | (with_reducible refine Run.gQ ?_ ?_ <;> intro hb <;> try simp only [hb])))
  have m3 : H1.next ≠ H.next := m1
  refine ⟨by rw [decide_eq_true m3]; rfl, decide_eq_true m3, ?_⟩
  have cA := (((((c1.keep (Frame.add ⟨3, [[.nils, .nils, .nils]]⟩ (fun _ => False)) (fun _ e => e.elim)).keep (Frame.set (p := fun m => m = H1.next) ⟨3, [[x1, y1, z1]]⟩ H1.next rfl) (fun m e => by rw [e]; exact c1.nx)).put [i64 s.id, i64 s.fr, i64 s.ep, x1, y, z, a, b, c, d]).put [i64 s.id, i64 s.fr, i64 s.ep, x1, y1, z, a, b, c, d]).put [i64 s.id, i64 s.fr, i64 s.ep, x1, y1, z1, a, b, c, d])
  have gA := (((((g1.imp (q' := fun m => H.next + 3 ≤ m ∧ m < H1.next) (fun m hm hq => ⟨hq, hm⟩)).frame (Frame.add ⟨3, [[.nils, .nils, .nils]]⟩ (fun _ => False)) (fun _ _ => id)).put (l := H1.next) ⟨3, [[x1, y1, z1]]⟩ (fun m hm e => by omega)).put (l := H.next) ⟨10, [[i64 s.id, i64 s.fr, i64 s.ep, x1, y, z, a, b, c, d]]⟩ (fun m hm e => by omega)).put (l := H.next) ⟨10, [[i64 s.id, i64 s.fr, i64 s.ep, x1, y1, z, a, b, c, d]]⟩ (fun m hm e => by omega)).put (l := H.next) ⟨10, [[i64 s.id, i64 s.fr, i64 s.ep, x1, y1, z1, a, b, c, d]]⟩ (fun m hm e => by omega)
  generalize ((((H1.add ⟨3, [[.nils, .nils, .nils]]⟩).set H1.next ⟨3, [[x1, y1, z1]]⟩).set H.next ⟨10, [[i64 s.id, i64 s.fr, i64 s.ep, x1, y, z, a, b, c, d]]⟩).set H.next ⟨10, [[i64 s.id, i64 s.fr, i64 s.ep, x1, y1, z, a, b, c, d]]⟩).set H.next ⟨10, [[i64 s.id, i64 s.fr, i64 s.ep, x1, y1, z1, a, b, c, d]]⟩ = HA at *
  have gA := gA.imp (q' := fun m => H.next + 3 ≤ m) (fun m _ hq => hq.1)
  have z0 : ∀ {K : Heap}, K.floor = 0 → K.floor ≤ K.next := fun e => by rw [e]; exact Nat.zero_le _
  refine (New.seen rfl (hup.frame cA.fr (fun _ _ => id)) (flat_bo _) (fun u hu => clone76 _ hu (flat_bo _) (by simpa using hs.up.1) (z0 cA.fl))).mono fun a1 H2 w2 => ?_
  have cB := cA.keep w2.2.1 (fun _ e => e.elim)
  have gB := gA.frame w2.2.1 (fun _ _ => id)
  have kB := Kp.of cA.nx w2
  (repeat' (first | (simp only [wp, extractV, exists_eq_left', if_true, if_false, ite_true, ite_false, reduceIte, Nat.reduceAdd, Nat.reduceLT, Nat.reduceLeDiff, Nat.reduceEqDiff, cB.fl, cB.b2, kB.rd.cells]) | (with_reducible refine Run.gC ?_ ?_ <;> intro hb <;> try simp only [hb]) | (with_reducible refine Run.gG ?_ ?_ <;> intro hb <;> try simp only [hb]) | (with_reducible refine Run.gQ ?_ ?_ <;> intro hb <;> try simp only [hb])))
  have cC := cB.put [i64 s.id, i64 s.fr, i64 s.ep, x1, y1, z1, a1, b, c, d]
  have gC := gB.put (l := H.next) ⟨10, [[i64 s.id, i64 s.fr, i64 s.ep, x1, y1, z1, a1, b, c, d]]⟩ (fun m hm e => by omega)
  have kC := kB.put (l := H.next) (by omega) ⟨10, [[i64 s.id, i64 s.fr, i64 s.ep, x1, y1, z1, a1, b, c, d]]⟩
  refine (New.seen rfl (hsm.frame cC.fr (fun _ _ => id)) (flat_ir _) (fun u hu => clone73 _ hu (flat_ir _) (by simpa using hs.sems.1) (z0 cC.fl))).mono fun b1 H3 w3 => ?_
  have cD := cC.keep w3.2.1 (fun _ e => e.elim)
  have gD := gC.frame w3.2.1 (fun _ _ => id)
  have kD := kC.keep w3.2.1
  have jD := Kp.of cC.nx w3
  (repeat' (first | (simp only [wp, extractV, exists_eq_left', if_true, if_false, ite_true, ite_false, reduceIte, Nat.reduceAdd, Nat.reduceLT, Nat.reduceLeDiff, Nat.reduceEqDiff, cD.fl, cD.b2, jD.rd.cells]) | (with_reducible refine Run.gC ?_ ?_ <;> intro hb <;> try simp only [hb]) | (with_reducible refine Run.gG ?_ ?_ <;> intro hb <;> try simp only [hb]) | (with_reducible refine Run.gQ ?_ ?_ <;> intro hb <;> try simp only [hb])))
  have cE := cD.put [i64 s.id, i64 s.fr, i64 s.ep, x1, y1, z1, a1, b1, c, d]
  have gE := gD.put (l := H.next) ⟨10, [[i64 s.id, i64 s.fr, i64 s.ep, x1, y1, z1, a1, b1, c, d]]⟩ (fun m hm e => by omega)
  have kE := kD.put (l := H.next) (by omega) ⟨10, [[i64 s.id, i64 s.fr, i64 s.ep, x1, y1, z1, a1, b1, c, d]]⟩
  have jE := jD.put (l := H.next) (by omega) ⟨10, [[i64 s.id, i64 s.fr, i64 s.ep, x1, y1, z1, a1, b1, c, d]]⟩
  refine (New.seen rfl (hpg.frame cE.fr (fun _ _ => id)) (flat_pa _) (fun u hu => clone77 _ hu (flat_pa _) (by simpa using hs.pages.1) (z0 cE.fl))).mono fun d1 H4 w4 => ?_
  have cF := cE.keep w4.2.1 (fun _ e => e.elim)
  have gF := gE.frame w4.2.1 (fun _ _ => id)
  have kF := kE.keep w4.2.1
  have jF := jE.keep w4.2.1
  have iF := Kp.of cE.nx w4
  (repeat' (first | (simp only [wp, extractV, exists_eq_left', if_true, if_false, ite_true, ite_false, reduceIte, Nat.reduceAdd, Nat.reduceLT, Nat.reduceLeDiff, Nat.reduceEqDiff, cF.fl, cF.b2, iF.rd.cells]) | (with_reducible refine Run.gC ?_ ?_ <;> intro hb <;> try simp only [hb]) | (with_reducible refine Run.gG ?_ ?_ <;> intro hb <;> try simp only [hb]) | (with_reducible refine Run.gQ ?_ ?_ <;> intro hb <;> try simp only [hb])))
  have cG := cF.put [i64 s.id, i64 s.fr, i64 s.ep, x1, y1, z1, a1, b1, c, d1]
  have gG := gF.put (l := H.next) ⟨10, [[i64 s.id, i64 s.fr, i64 s.ep, x1, y1, z1, a1, b1, c, d1]]⟩ (fun m hm e => by omega)
  have kG := kF.put (l := H.next) (by omega) ⟨10, [[i64 s.id, i64 s.fr, i64 s.ep, x1, y1, z1, a1, b1, c, d1]]⟩
  have jG := jF.put (l := H.next) (by omega) ⟨10, [[i64 s.id, i64 s.fr, i64 s.ep, x1, y1, z1, a1, b1, c, d1]]⟩
  have iG := iF.put (l := H.next) (by omega) ⟨10, [[i64 s.id, i64 s.fr, i64 s.ep, x1, y1, z1, a1, b1, c, d1]]⟩
  generalize H4.set H.next ⟨10, [[i64 s.id, i64 s.fr, i64 s.ep, x1, y1, z1, a1, b1, c, d1]]⟩ = HG at *
  refine (clone78 _ (hpo.frame cG.fr (fun _ _ => id)) (by rw [hpl]; exact hs.ports.1) (z0 cG.fl)).mono fun P H5 w5 => ?_
  have cH := cG.keep w5.2.1 (fun _ e => e.elim)
  have lP : lenV P = some (.int .i64 (s.ports.length : Nat)) := by rw [← hpl]; exact w5.1.len
  have oP := w5.1
  (repeat' (first | (simp only [wp, extractV, exists_eq_left', if_true, if_false, ite_true, ite_false, reduceIte, Nat.reduceAdd, Nat.reduceLT, Nat.reduceLeDiff, Nat.reduceEqDiff, cH.fl, cH.b2, oP.rd.cells, lP]) | (with_reducible refine Run.gC ?_ ?_ <;> intro hb <;> try simp only [hb]) | (with_reducible refine Run.gG ?_ ?_ <;> intro hb <;> try simp only [hb]) | (with_reducible refine Run.gQ ?_ ?_ <;> intro hb <;> try simp only [hb])))
  have cI := cH.put [i64 s.id, i64 s.fr, i64 s.ep, x1, y1, z1, a1, b1, P, d1]
  -- what lies below the ports' new place
  have gI := ((gG.imp (q' := fun m => H.next + 3 ≤ m ∧ m < HG.next) (fun m hm hq => ⟨hq, hm⟩)).frame w5.2.1 (fun _ _ => id)).put (l := H.next) ⟨10, [[i64 s.id, i64 s.fr, i64 s.ep, x1, y1, z1, a1, b1, P, d1]]⟩ (fun m hm e => by omega)
  have kI := (kG.keep w5.2.1).put (l := H.next) (by omega) ⟨10, [[i64 s.id, i64 s.fr, i64 s.ep, x1, y1, z1, a1, b1, P, d1]]⟩
  have jI := (jG.keep w5.2.1).put (l := H.next) (by omega) ⟨10, [[i64 s.id, i64 s.fr, i64 s.ep, x1, y1, z1, a1, b1, P, d1]]⟩
  have iI := (iG.keep w5.2.1).put (l := H.next) (by omega) ⟨10, [[i64 s.id, i64 s.fr, i64 s.ep, x1, y1, z1, a1, b1, P, d1]]⟩
  have geP : ∀ m, loc P = some m → HG.next ≤ m := w5.2.2
  have oI : Own (H5.set H.next ⟨10, [[i64 s.id, i64 s.fr, i64 s.ep, x1, y1, z1, a1, b1, P, d1]]⟩) P 2 pr := oP.frame (p := fun m => m = H.next) (Frame.set _ _ rfl) fun m hm e => by have := geP m hm; have := cG.nx; omega
  have lk : ∀ m, loc a1 = some m → m < HG.next := fun m hm => kG.rd.lt hm
  have lj : ∀ m, loc b1 = some m → m < HG.next := fun m hm => jG.rd.lt hm
  have li : ∀ m, loc d1 = some m → m < HG.next := fun m hm => iG.rd.lt hm
  have hGn := cG.nx
  refine Run.loop (N := s.ports.length) (fun k st Hk => st = [i64 k] ∧ ∃ rk, Ci H Hk [i64 s.id, i64 s.fr, i64 s.ep, x1, y1, z1, a1, b1, P, d1] ∧ Own Hk P 2 rk ∧ rk.length = s.ports.length ∧ RdTab Hk (fun m => H.next + 3 ≤ m ∧ m < HG.next) x1 y1 z1 t ∧
      Rd Hk a1 1 (s.up.map boR) ∧ Rd Hk b1 1 (s.sems.map intRow) ∧ Rd Hk d1 66 (s.pages.map paR) ∧ (∀ (j : Nat) (hj : j < rk.length) (hp : j < s.ports.length), j < k → PoR Hk (fun m => H.next + 3 ≤ m ∧ loc P ≠ some m) rk[j] s.ports[j]) ∧ (∀ (j : Nat) (hj : j < rk.length) (hp : j < pr.length), k ≤ j → rk[j] = pr[j]))
    ⟨rfl, pr, cI, oI, hpl, gI, kI.rd, jI.rd, iI.rd, fun j _ _ h => absurd h (Nat.not_lt_zero _), fun j _ _ _ => rfl⟩ ?_
  rintro k st Hk hk ⟨rfl, rk, ck, ok, lk', gk, ka, kb, kd, hdone, hrest⟩
  simp only [ferry_ready_Into_l1]
  by_cases hlt : k < s.ports.length
  · have hkr : k < rk.length := by omega
    have hkp : k < pr.length := by omega
    obtain ⟨m, em, rm, lm⟩ := hprow k hkp
    have erk : rk[k] = [m, i64 s.ports[k].age] := (hrest k hkr hkp (Nat.le_refl _)).trans em
    obtain ⟨lP', bP, hlP, hidx, hblk, hrow, hflo⟩ := ok.idx (k := .i64) hkr
    rw [erk] at hrow
    have geP' := geP _ hlP
    have hmb := hs.msgs _ (List.getElem_mem hlt)
    (repeat' (first | (simp only [wp, extractV, exists_eq_left', if_true, if_false, ite_true, ite_false, reduceIte, Nat.reduceAdd, Nat.reduceLT, Nat.reduceLeDiff, Nat.reduceEqDiff, ltT hlt, ck.fl, ck.b2, hidx, hblk, hrow]) | (with_reducible refine Run.gC ?_ ?_ <;> intro hb <;> try simp only [hb]) | (with_reducible refine Run.gG ?_ ?_ <;> intro hb <;> try simp only [hb]) | (with_reducible refine Run.gQ ?_ ?_ <;> intro hb <;> try simp only [hb])))
    refine Run.qAll (P := fun y K' => Rd K' y 1 (s.ports[k].msgs.map stR) ∧ ∀ l, loc y = some l → Hk.next ≤ l) (fun l hl => by simp [visB, Heap.add_next, Heap.set_next] at hl ⊢; omega) (fun K k1 k2 k3 => ?_) fun m' K1 Hn ⟨o1, l1⟩ f1 g1 e1 => ?_
    · refine (New.seen rfl ((rm.frame ck.fr (fun _ _ => id)).in_ k1 k3) (flat_st _) (fun u hu => clone79 _ hu (flat_st _) (by simpa using hmb.1) k2)).mono fun y K' ⟨o, f, g⟩ => ⟨f, o.rd, fun l hl => ?_⟩
      have := g l hl
      rw [k1] at this
      exact this
    have o1 := o1.same g1 e1
    have cn := ck.keep f1 (fun _ e => e.elim)
    have hlPn : lP' < Hk.next := ok.lt hlP
    have hblk1 : Hn.blk lP' = some bP := (f1.old _ hlPn id).trans hblk
    have fl0 : Hn.floor ≤ lP' := by rw [cn.fl]; exact Nat.zero_le _
    (repeat' (first | (simp only [wp, extractV, exists_eq_left', if_true, if_false, ite_true, ite_false, reduceIte, Nat.reduceAdd, Nat.reduceLT, Nat.reduceLeDiff, Nat.reduceEqDiff, fl0, o1.cells, hblk1, hrow, addN hlt hs.ports.2]) | (with_reducible refine Run.gC ?_ ?_ <;> intro hb <;> try simp only [hb]) | (with_reducible refine Run.gG ?_ ?_ <;> intro hb <;> try simp only [hb]) | (with_reducible refine Run.gQ ?_ ?_ <;> intro hb <;> try simp only [hb])))
    have hGk := ck.nx
    have hset : Frame Hn (Hn.set lP' ⟨bP.sz, bP.rows.set k [m', i64 s.ports[k].age]⟩) (fun l => l = lP') := Frame.set _ _ rfl
    have keepR : ∀ {y : V} {sz : Nat} {rs : List (List V)}, Rd Hk y sz rs → (∀ l, loc y = some l → l < HG.next) → Rd (Hn.set lP' ⟨bP.sz, bP.rows.set k [m', i64 s.ports[k].age]⟩) y sz rs := fun r hl => (r.frame f1 (fun _ _ => id)).frame hset fun l e1 e2 => by have := hl l e1; omega
    refine ⟨hlt, rk.set k [m', i64 s.ports[k].age], cn.keep hset (fun l e => by rw [e]; omega), (ok.frame f1 (fun _ _ => id)).put hlP hblk1 _, by rw [List.length_set]; exact lk', (gk.frame f1 (fun _ _ => id)).frame hset (fun l e1 e2 => by omega), keepR ka lk, keepR kb lj, keepR kd li, ?_, ?_⟩
    · intro j hj hp hjk
      rw [List.length_set] at hj
      by_cases hjk' : j = k
      · subst hjk'
        rw [List.getElem_set_self]
        exact ⟨m', rfl, o1.frame hset fun l e1 e2 => by have := l1 l e1; omega, fun l e => ⟨by have := l1 l e; omega, fun e2 => by have := l1 l e; have := ok.lt e2; omega⟩⟩
      · rw [List.getElem_set_ne (by omega)]
        exact ((hdone j hj hp (by omega)).frame f1 (fun _ _ => id)).frame hset fun l e1 e2 => e1.2 (by rw [e2]; exact hlP)
    · intro j hj hp hjk
      rw [List.length_set] at hj
      rw [List.getElem_set_ne (by omega)]
      exact hrest j hj hp (by omega)
  · have hke : k = s.ports.length := by omega
    obtain ⟨zr, hz, hz10⟩ := ck.b4
    have z10 : 10 ≤ zr.length := by omega
    have dp : zr.drop 10 = [] := List.drop_of_length_le (by omega)
    (repeat' (first | (simp only [wp, extractV, exists_eq_left', if_true, if_false, ite_true, ite_false, reduceIte, Nat.reduceAdd, Nat.reduceLT, Nat.reduceLeDiff, Nat.reduceEqDiff, ltF hlt, ck.fl, ck.b2, hz, z10, dp]) | (with_reducible refine Run.gC ?_ ?_ <;> intro hb <;> try simp only [hb]) | (with_reducible refine Run.gG ?_ ?_ <;> intro hb <;> try simp only [hb]) | (with_reducible refine Run.gQ ?_ ?_ <;> intro hb <;> try simp only [hb])))
    have fz : Frame Hk (Hk.set (H.next + 2) ⟨10, [[i64 s.id, i64 s.fr, i64 s.ep, x1, y1, z1, a1, b1, P, d1]]⟩) (fun m => m = H.next + 2) := Frame.set _ _ rfl
    have gz := (gk.frame fz (fun m e1 e2 => by omega)).imp (q' := fun m => H.next ≤ m) (fun m _ e => by omega)
    refine ⟨ck.fr.st (by omega) _, _, x1, y1, z1, a1, b1, P, d1, rk, rfl, rfl, gz, ka.frame fz (fun m e1 e2 => by have := kI.ge m e1; omega), kb.frame fz (fun m e1 e2 => by have := jI.ge m e1; omega), ok.rd.frame fz (fun m e1 e2 => by have := geP m e1; omega), kd.frame fz (fun m e1 e2 => by have := iI.ge m e1; omega), lk', ?_, ?_, ?_, ?_, ?_⟩
    · intro j hj
      have hj' : j < s.ports.length := by omega
      exact ((hdone j hj hj' (by omega)).frame fz (fun m e1 e2 => by omega)).imp fun m _ e => by omega
    · exact fun m e => by have := kI.ge m e; omega
    · exact fun m e => by have := jI.ge m e; omega
    · exact fun m e => by have := geP m e; omega
    · exact fun m e => by have := iI.ge m e; omega
end Go.Fv.Tr
