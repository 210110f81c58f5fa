/-
  The law ReadyBlocks, run to its end. By an AI agent; no person has read it.
-/
import Derived.Test.YtjjiphigolegbaaDoorFvSqH
import Derived.Test.YtjjiphigolegbaaDoorFvSqG
set_option linter.unusedVariables false
set_option linter.unusedSimpArgs false
set_option linter.unusedSectionVars false
/-! The law ReadyBlocks, run to its end. -/
namespace Go.Fv.Tr
open Go Go.Fv Go.Fv.Pl Go.Proofs
set_option linter.unusedSimpArgs false
set_option linter.unusedVariables false
variable {G : Nat → Option (List V)}

theorem regP_wp {r1 : Int} {p : Pr} (h : Wp p) : Wp (regP r1 p) := by
  unfold Wp regP
  simp [show p.regs.length = 16 from h]

theorem _root_.Go.Fv.Own.thawQ1 {H : Heap} {x : V} {sz : Nat} {rows : List (List V)} (h : Own H x sz rows) (hf : flatRows rows = true) :
    ∃ y, Sls y sz rows ∧ ∀ (v : Nat → Bool) (n f : Nat), (∀ l, loc x = some l → v l = true) → thaw true ⟨fun l => if v l then H.blk l else none, n, f⟩ x = some y := by
  rcases h with ⟨rfl | rfl, rfl⟩ | ⟨l, n, c, ex, b, rfl, h1, h2, h3, h4, h5, rfl⟩
  · exact ⟨.nils, Sls.nils _, fun _ _ _ _ => rfl⟩
  · exact ⟨.emp, Sls.emp _, fun _ _ _ _ => rfl⟩
  · refine ⟨.imm sz (b.rows.take n), Sls.imm _ _, fun v _ _ hv => ?_⟩
    have : n ≤ b.rows.length := by omega
    simp [Fv.thaw, h1, this, hf, hv l rfl]
theorem agg_thawV {H : Heap} {l l' : List V} (h : l.mapM (thaw true H) = some l') : thawV true H (.agg l) = some (.agg l') := by simp [thawV, h]

set_option maxRecDepth 20000 in
theorem blocks_run (hG : Errs G) (n : Nat) {x y z : V} {t : Tab} (h : IsTab x y z t) (pr w o du pi st nw r1 : Int) :
    ∃ v H', sem (cfg G) (n + 10) 14 [.agg [x, y, z, i64 pr, i64 w, i64 o, i64 du, i64 pi, i64 st, i64 nw, .int .u32 r1]] Heap.empty = some (v, H') ∧ v = .bool true := by
  show Run (sem (cfg G) (n + 10) 14 [.agg [x, y, z, i64 pr, i64 w, i64 o, i64 du, i64 pi, i64 st, i64 nw, .int .u32 r1]]) Heap.empty fun v _ => v = .bool true
  have ln : lenV .nils = some (.int .i64 0) := rfl
  rw [ferry_ferrylaw09_ReadyBlocks_eq]
  simp only [ferry_ferrylaw09_ReadyBlocks]
  obtain ⟨q1, e1, a1⟩ := block_spec hG (n + 1) h pr w o du
  rcases a1 with ⟨hok, ⟨hin, hb⟩, a, b, c, rfl, ht⟩ | ⟨hok, rfl⟩ | ⟨hok, hno, rfl⟩
  · obtain ⟨q, hq, hs⟩ := hin
    have hs1 : q.state = 1 := by simpa using hs
    have hok2 := TabOk.block hok hq hs1 hb
    have few := ((ROk_iff t).2 hok).few
    have few2 := ((ROk_iff _).2 hok2).few
    obtain ⟨ws, ew, sw⟩ := (waiters_spec (G := G) (n + 8) ht (by have := (small_of hok2).p; omega) w o).eq rfl (by simp [ht.closed, cI])
    have h0 := (at?_lt hq).1
    have hq2 : at? (Tab.block t pr w o du).ps pr = some (blockP w o q) := by
      show at? (setP t.ps pr (blockP w o)) pr = _
      rw [at?_set h0, if_pos rfl, hq]; rfl
    have hmem : pr ∈ wt (Tab.block t pr w o du).ps w o := mem_wt.2 ⟨_, hq2, rfl, rfl, rfl⟩
    have wlen := (wt_wl (t := Tab.block t pr w o du) w o).len hok2
    obtain ⟨q3, e3, a3⟩ := wakeR_spec hG (n + 1) ht pr r1
    obtain ⟨q4, e4, a4⟩ := yield_spec hG (n + 1) h pr
    rcases a3 with ⟨_, _, wa, wb, wc, rfl, hw⟩ | ⟨g, _⟩ | ⟨_, g, _⟩
    case inr.inl => exact absurd hok2 g
    case inr.inr => exact absurd ⟨_, hq2, by simp [blockP]⟩ g
    rcases a4 with ⟨_, _, ya, yb, yc, rfl, hy⟩ | ⟨g, _⟩ | ⟨_, g, _⟩
    case inr.inl => exact absurd hok g
    case inr.inr => exact absurd ⟨_, hq, hs⟩ g
    (repeat' (first | (simp only [wp, extractV, exists_eq_left', if_true, if_false, ite_true, ite_false, reduceIte, Nat.reduceAdd, Nat.reduceLT, Nat.reduceLeDiff, Nat.reduceEqDiff, awake_spec hG (n), to_spec (n + 8) h, e1, ht.q.len, List.length_map]) | (with_reducible refine Run.gC ?_ ?_ <;> intro hb <;> try simp only [hb]) | (with_reducible refine Run.gG ?_ ?_ <;> intro hb <;> try simp only [hb]) | (with_reducible refine Run.gQ ?_ ?_ <;> intro hb <;> try simp only [hb])))
    refine Run.loop (N := (Tab.block t pr w o du).q.length) (fun i s H => s = [.bool false, .int .i64 (i : Nat)] ∧ H.floor = 0 ∧ H.next = 2 ∧ H.blk 0 = some ⟨11, [[x, y, z, i64 pr, i64 w, i64 o, i64 du, i64 pi, i64 st, i64 nw, .int .u32 r1]]⟩ ∧ H.blk 1 = some ⟨3, [[a, b, c]]⟩)
      ⟨rfl, rfl, rfl, rfl, rfl⟩ ?_
    rintro i s H hi ⟨rfl, b1, b2, b3, b4⟩
    by_cases hlt : i < (Tab.block t pr w o du).q.length
    · have i1 := ht.q.idx (k := .i64) (i := i) (by simpa using hlt)
      simp only [List.getElem_map] at i1
      have hne : ((Tab.block t pr w o du).q[i] == pr) = false := by
        have hm : (Tab.block t pr w o du).q[i] ∈ t.q.filter (· ≠ pr) := List.getElem_mem hlt
        have := (List.mem_filter.1 hm).2
        simpa using this
      simp only [ferry_ferrylaw09_ReadyBlocks_l1]
      (repeat' (first | (simp only [wp, extractV, exists_eq_left', if_true, if_false, ite_true, ite_false, reduceIte, Nat.reduceAdd, Nat.reduceLT, Nat.reduceLeDiff, Nat.reduceEqDiff, ltT hlt, i1, ir_at, b3, b4, hne, addN hlt ht.big.2.1]) | (with_reducible refine Run.gC ?_ ?_ <;> intro hb <;> try simp only [hb]) | (with_reducible refine Run.gG ?_ ?_ <;> intro hb <;> try simp only [hb]) | (with_reducible refine Run.gQ ?_ ?_ <;> intro hb <;> try simp only [hb])))
      exact ⟨hlt, b1, b2⟩
    simp only [ferry_ferrylaw09_ReadyBlocks_l1]
    (repeat' (first | (simp only [wp, extractV, exists_eq_left', if_true, if_false, ite_true, ite_false, reduceIte, Nat.reduceAdd, Nat.reduceLT, Nat.reduceLeDiff, Nat.reduceEqDiff, ltF hlt, b3, b4, ew, sw.len, List.length_map]) | (with_reducible refine Run.gC ?_ ?_ <;> intro hb <;> try simp only [hb]) | (with_reducible refine Run.gG ?_ ?_ <;> intro hb <;> try simp only [hb]) | (with_reducible refine Run.gQ ?_ ?_ <;> intro hb <;> try simp only [hb])))
    generalize wt (Tab.block t pr w o du).ps w o = L at sw hmem wlen ⊢
    refine Run.loop (N := L.length) (fun i s H => s = [.bool (decide (pr ∈ L.take i)), .int .i64 (i : Nat)] ∧ H.floor = 0 ∧ H.next = 2 ∧ H.blk 0 = some ⟨11, [[x, y, z, i64 pr, i64 w, i64 o, i64 du, i64 pi, i64 st, i64 nw, .int .u32 r1]]⟩ ∧ H.blk 1 = some ⟨3, [[a, b, c]]⟩)
      ⟨by simp, b1, b2, b3, b4⟩ ?_
    rintro j s H hj ⟨rfl, b1, b2, b3, b4⟩
    by_cases hlj : j < L.length
    · have i1 := sw.idx (k := .i64) (i := j) (by simpa using hlj)
      simp only [List.getElem_map] at i1
      have e5 : decide (pr ∈ L.take (j + 1)) = (decide (pr ∈ L.take j) || (L[j] == pr)) := by
        have : (pr ∈ L.take j ++ [L[j]]) ↔ (pr ∈ L.take j ∨ L[j] = pr) := by rw [List.mem_append, List.mem_singleton]; exact or_congr Iff.rfl ⟨Eq.symm, Eq.symm⟩
        rw [take_snoc hlj, decide_eq_decide.2 this, Bool.decide_or]
        rfl
      simp only [ferry_ferrylaw09_ReadyBlocks_l2]
      (repeat' (first | (simp only [wp, extractV, exists_eq_left', if_true, if_false, ite_true, ite_false, reduceIte, Nat.reduceAdd, Nat.reduceLT, Nat.reduceLeDiff, Nat.reduceEqDiff, ltT hlj, i1, ir_at, b3, b4, addN hlj (show L.length ≤ big by unfold big; omega)]) | (with_reducible refine Run.gC ?_ ?_ <;> intro hb <;> try simp only [hb]) | (with_reducible refine Run.gG ?_ ?_ <;> intro hb <;> try simp only [hb]) | (with_reducible refine Run.gQ ?_ ?_ <;> intro hb <;> try simp only [hb])))
      · exact ⟨hlj, by rw [e5, hb]; rfl, b1, b2⟩
      · exact ⟨hlj, by rw [e5, hb]; rfl, b1, b2⟩
    simp only [ferry_ferrylaw09_ReadyBlocks_l2]
    have e6 : decide (pr ∈ L.take j) = true := by rw [take_all (by omega)]; exact decide_eq_true hmem
    have hlt1 := at?_lt hq
    have r0 : decide (pr < 0) = false := decide_eq_false (by omega)
    have r2 : decide (((t.yield pr).ps.length : Int) ≤ pr) = false := decide_eq_false (by show ¬ ((t.ps.length : Int) ≤ pr); omega)
    (repeat' (first | (simp only [wp, extractV, exists_eq_left', if_true, if_false, ite_true, ite_false, reduceIte, Nat.reduceAdd, Nat.reduceLT, Nat.reduceLeDiff, Nat.reduceEqDiff, ltF hlj, e6, b1, b2, b3, b4, e3, e4, to_spec (n + 8) h, hy.p.len, List.length_map, r0, r2, Run.slice0]) | (with_reducible refine Run.gC ?_ ?_ <;> intro hb <;> try simp only [hb]) | (with_reducible refine Run.gG ?_ ?_ <;> intro hb <;> try simp only [hb]) | (with_reducible refine Run.gQ ?_ ?_ <;> intro hb <;> try simp only [hb])))
    refine (app_fresh (by simp only [Heap.set_floor, Heap.set_next, Heap.add_floor, Heap.add_next, Heap.q_floor, Heap.q_next, b1]; omega) hy.p (by rw [List.length_map]; show t.ps.length * 104 ≤ room; unfold room; omega)).mono fun z1 H5 ⟨oz, fz, lz⟩ => ?_
    have n5 : 4 ≤ H5.next := by have := fz.next; simp only [Heap.set_next, Heap.add_next, Heap.q_next, b2] at this; omega
    have lz' : ∀ l, loc z1 = some l → 4 ≤ l := fun l hl => by have := lz l hl; simp only [Heap.set_next, Heap.add_next, Heap.q_next, b2] at this; omega
    have d0 : H5.blk 0 = some ⟨11, [[x, y, z, i64 pr, i64 w, i64 o, i64 du, i64 pi, i64 st, i64 nw, .int .u32 r1]]⟩ := (fz.old 0 (by simp [Heap.q_blk, Heap.q_next, Heap.q_floor, Heap.set_blk, Heap.set_next, Heap.set_floor, Heap.add_blk, Heap.add_next, Heap.add_floor, b2]) id).trans (by simp [Heap.q_blk, Heap.q_next, Heap.q_floor, Heap.set_blk, Heap.set_next, Heap.set_floor, Heap.add_blk, Heap.add_next, Heap.add_floor, b2, b3])
    have d2 : H5.blk 2 = some ⟨3, [[wa, wb, wc]]⟩ := (fz.old 2 (by simp [Heap.q_blk, Heap.q_next, Heap.q_floor, Heap.set_blk, Heap.set_next, Heap.set_floor, Heap.add_blk, Heap.add_next, Heap.add_floor, b2]) id).trans (by simp [Heap.q_blk, Heap.q_next, Heap.q_floor, Heap.set_blk, Heap.set_next, Heap.set_floor, Heap.add_blk, Heap.add_next, Heap.add_floor, b2])
    have d3 : H5.blk 3 = some ⟨3, [[ya, yb, yc]]⟩ := (fz.old 3 (by simp [Heap.q_blk, Heap.q_next, Heap.q_floor, Heap.set_blk, Heap.set_next, Heap.set_floor, Heap.add_blk, Heap.add_next, Heap.add_floor, b2]) id).trans (by simp [Heap.q_blk, Heap.q_next, Heap.q_floor, Heap.set_blk, Heap.set_next, Heap.set_floor, Heap.add_blk, Heap.add_next, Heap.add_floor, b2])
    have g5 : H5.floor = 0 := fz.floor.trans (by simp [Heap.q_blk, Heap.q_next, Heap.q_floor, Heap.set_blk, Heap.set_next, Heap.set_floor, Heap.add_blk, Heap.add_next, Heap.add_floor, b1])
    clear fz lz
    obtain ⟨k, rfl⟩ := Int.eq_ofNat_of_zero_le h0
    have hk : k < (t.yield (k : Int)).ps.length := by show k < t.ps.length; omega
    obtain ⟨lx, B, ex, ix, bx, rx, fx⟩ := oz.idx (k := .i64) (i := k) (by simpa using hk)
    simp only [List.getElem_map] at rx
    have rx' : B.rows[k]? = some (prRow t.ps[k]) := rx
    obtain ⟨a0, a1, a2, a3, a4, a5, a6, a7, a8, a9, a10, a11, a12, a13, a14, a15, hr, hrow⟩ := row16 (p := t.ps[k]) (h.wp _ (List.getElem_mem _))
    have hrow' : prRow (regP r1 t.ps[k]) = [.int .u32 a0, .int .u32 r1, .int .u32 a2, .int .u32 a3, .int .u32 a4, .int .u32 a5, .int .u32 a6, .int .u32 a7, .int .u32 a8, .int .u32 a9, .int .u32 a10, .int .u32 a11, .int .u32 a12, .int .u32 a13, .int .u32 a14, .int .u32 a15,
      .int .u32 t.ps[k].pc, .int .i64 t.ps[k].state, .int .i64 t.ps[k].prio, .int .i64 t.ps[k].wait, .int .i64 t.ps[k].obj] := by unfold prRow regP; rw [hr]; rfl
    have hpl : k < B.rows.length := (List.getElem?_eq_some_iff.1 rx').1
    have hlx := lz' lx ex
    have hai : aidxV 16 1 (.ptr lx k 0) (.int .i64 1) = some (.ptr lx k 1) := by simp [aidxV, padd]
    have x0 : ¬ 0 = lx := by omega
    have x2 : ¬ 2 = lx := by omega
    have x3 : ¬ 3 = lx := by omega
    have ox := oz.put (i := k) ex bx (prRow (regP r1 t.ps[k]))
    have em : ((t.yield (k : Int)).ps.map prRow).set k (prRow (regP r1 t.ps[k])) = (setP t.ps (k : Int) (regP r1)).map prRow := (setP_map (f := regP r1) hk).symm
    rw [em] at ox
    rw [hrow] at rx'
    have m0 : 0 < H5.next := by omega
    have m2 : 2 < H5.next := by omega
    have m3 : 3 < H5.next := by omega
    (repeat' (first | (simp only [wp, extractV, exists_eq_left', if_true, if_false, ite_true, ite_false, reduceIte, Nat.reduceAdd, Nat.reduceLT, Nat.reduceLeDiff, Nat.reduceEqDiff, d0, d2, d3, g5, ix, bx, rx', hai, x0, x2, x3, m0, m2, m3, from_spec (n + 8) hw, buildV, fill, putRow, oz.cells, hy.q.cells, hy.s.cells]) | (with_reducible refine Run.gC ?_ ?_ <;> intro hb <;> try simp only [hb]) | (with_reducible refine Run.gG ?_ ?_ <;> intro hb <;> try simp only [hb]) | (with_reducible refine Run.gQ ?_ ?_ <;> intro hb <;> try simp only [hb])))
    rw [← hrow']
    obtain ⟨zi, sz, tz⟩ := (ox.frame (Frame.q (visB H5.next [(H5.next, H5.next, true)]) (fun _ => False)) fun _ _ g => g).thawQ1 (flat_pr _)
    have hI : IsTab zi yb yc ⟨setP t.ps (k : Int) (regP r1), (t.yield (k : Int)).q, (t.yield (k : Int)).ts⟩ := ⟨sz, hy.q, hy.s, setP_wp h.wp hk (regP_wp (p := t.ps[k]) (h.wp _ (List.getElem_mem _))), by simp only [setP_len]; exact h.big.1, hy.big.2.1, hy.big.2.2⟩
    have eqT := equal_spec (G := G) (n + 7) hw hI
    rw [decide_eq_true (block_wake hok hq hs1 hb r1)] at eqT
    refine (Run.qcallRef (bs := [.agg [wa, wb, wc], .agg [zi, yb, yc]]) rfl (mapMV2 (agg_thawV (by simp [sls_thaw hw.p, sls_thaw hw.q, sls_thaw hw.s])) (agg_thawV ?_)) (closed2 hw.closed hI.closed) eqT rfl).2 rfl
    have tz' := tz (visB H5.next [(H5.next, H5.next, true), (H5.next, H5.next, true), (H5.next, H5.next, true), (H5.next, H5.next, true), (H5.next, H5.next, true), (H5.next, H5.next, true), (H5.next, H5.next, true), (H5.next, H5.next, true)]) H5.next H5.next fun l hl => by
      have : l < H5.next := oz.lt hl
      simp [visB, this]
    simp only [List.mapM_cons, List.mapM_nil, sls_thaw hy.q, sls_thaw hy.s]
    erw [tz']
    rfl
  · (repeat' (first | (simp only [wp, extractV, exists_eq_left', if_true, if_false, ite_true, ite_false, reduceIte, Nat.reduceAdd, Nat.reduceLT, Nat.reduceLeDiff, Nat.reduceEqDiff, awake_spec hG (n), to_spec (n + 8) h, e1, badV, eq_err, ln, beq_self_eq_true]) | (with_reducible refine Run.gC ?_ ?_ <;> intro hb <;> try simp only [hb]) | (with_reducible refine Run.gG ?_ ?_ <;> intro hb <;> try simp only [hb]) | (with_reducible refine Run.gQ ?_ ?_ <;> intro hb <;> try simp only [hb])))
  · (repeat' (first | (simp only [wp, extractV, exists_eq_left', if_true, if_false, ite_true, ite_false, reduceIte, Nat.reduceAdd, Nat.reduceLT, Nat.reduceLeDiff, Nat.reduceEqDiff, awake_spec hG (n), to_spec (n + 8) h, e1, badV, eq_err, ln, beq_self_eq_true]) | (with_reducible refine Run.gC ?_ ?_ <;> intro hb <;> try simp only [hb]) | (with_reducible refine Run.gG ?_ ?_ <;> intro hb <;> try simp only [hb]) | (with_reducible refine Run.gQ ?_ ?_ <;> intro hb <;> try simp only [hb])))
end Go.Fv.Tr
