/-
  Two scripts that are the same; the law about Print. By an AI agent; no person has read it.
-/
import Derived.Test.YtoogammidjhfgaaDoorFvSvG
import Derived.Test.YtoogammidjhfgaaDoorFvSvH
import Derived.Test.YtoogammidjhfgaaDoorFvTr41
set_option linter.unusedVariables false
set_option linter.unusedSimpArgs false
set_option linter.unusedSectionVars false
/-! Two scripts that are the same; the law about Print. -/
namespace Go.Fv.Tr
open Go Go.Fv Go.Proofs
set_option linter.unusedSimpArgs false
set_option linter.unusedVariables false
variable {G : Nat → Option (List V)}

theorem eq_pg (g : Pg) : eqV (.agg [.int, .str]) false (.agg (pgR g)) (.agg (pgR g)) = some true := by simp [eqV, pgR, eqCs, eqC, iV]
theorem eq_pc (g : Pc) : eqV (.agg [.int, .int, .bool]) false (.agg (pcR g)) (.agg (pcR g)) = some true := by simp [eqV, pcR, eqCs, eqC, iV]
theorem eq_pt (g : Pt) : eqV (.agg [.int, .int, .int, .int]) false (.agg (ptR g)) (.agg (ptR g)) = some true := by simp [eqV, ptR, eqCs, eqC, iV]
theorem eq_wn (g : Wn) : eqV (.agg [.int, .int, .int]) false (.agg (wnR g)) (.agg (wnR g)) = some true := by simp [eqV, wnR, eqCs, eqC, iV]
theorem eq_q4 (g : Q4) : eqV (.agg [.int, .int, .int, .int]) false (.agg (q4R g)) (.agg (q4R g)) = some true := by simp [eqV, q4R, eqCs, eqC, iV]
theorem eq_in (g : In) : eqV (.agg [.int, .int, .int, .str]) false (.agg (inpR g)) (.agg (inpR g)) = some true := by simp [eqV, inpR, eqCs, eqC, iV]
theorem iR_at (m : Int) : (iR m)[0]? = some (.int .i64 m) := rfl
theorem row_at {H : Heap} {p : V} {row : List V} {n : Nat} (h : placeV p H = some (row, 0)) (hn : row.length = n) (Q : V → Heap → Prop) : Run (loadN n p) H Q ↔ Q (.agg row) H := by
  subst hn
  rw [Run.loadNAt h (by omega), List.drop_zero, List.take_length]

/-- Two arguments in boxes. -/
theorem _root_.Go.Fv.Run.new2 {α : Type} {H : Heap} {la lb : List V} {F : V → V → M α} {Q : α → Heap → Prop}
    (h : ∀ H1 : Heap, H1.next = H.next + 2 → H1.floor = H.floor → H1.blk H.next = some ⟨la.length, [la]⟩ → H1.blk (H.next + 1) = some ⟨lb.length, [lb]⟩ → Frame H H1 (fun _ => False) → Run (F (.ptr H.next 0 0) (.ptr (H.next + 1) 0 0)) H1 Q) :
    Run ((newV (.agg la)).bind fun a => (newV (.agg lb)).bind fun b => F a b) H Q := by
  rw [Run.bind, Run.newA, Run.bind, Run.newA]
  refine h _ rfl rfl ?_ ?_ ((Frame.add _ _).tr (Frame.add _ _))
  · rw [Heap.add_blk, if_neg (by rw [Heap.add_next]; omega), Heap.add_blk, if_pos rfl]
  · exact if_pos rfl

structure LenB (p : Pl) : Prop where
  a : p.pgs.length ≤ 9223372036854775807
  b : p.prs.length ≤ 9223372036854775807
  c : p.pts.length ≤ 9223372036854775807
  d : p.sems.length ≤ 9223372036854775807

set_option maxRecDepth 20000 in
theorem samePart_run (n : Nat) {H : Heap} {q q' : Nat → Prop} {ra rb : List V} {p : Pl} (ha : PlR H q ra p) (hb : PlR H q' rb p) (hl : LenB p) :
    Run (callV (cfg G) (sem (cfg G) (n + 1)) 140 [.agg ra, .agg rb]) H fun v H' => Frame H H' (fun _ => False) ∧ v = .bool true := by
  obtain ⟨a1, a2, a3, a4, rfl, A1, A2, A3, A4, _⟩ := ha
  obtain ⟨b1, b2, b3, b4, rfl, B1, B2, B3, B4, _⟩ := hb
  rw [callV_inl rfl, ferry_ferrylaw25_samePart_eq]
  simp only [ferry_ferrylaw25_samePart]
  rw [Run.out]
  refine Run.new2 fun H1 hn1 hf1 hb1 hb2 f0 => ?_
  have A1 := A1.frame f0 fun _ _ => id
  have A2 := A2.frame f0 fun _ _ => id
  have A3 := A3.frame f0 fun _ _ => id
  have A4 := A4.frame f0 fun _ _ => id
  have B1 := B1.frame f0 fun _ _ => id
  have B2 := B2.frame f0 fun _ _ => id
  have B3 := B3.frame f0 fun _ _ => id
  have B4 := B4.frame f0 fun _ _ => id
  have la1 := A1.len
  have la2 := A2.len
  have la3 := A3.len
  have la4 := A4.len
  have lb1 := B1.len
  have lb2 := B2.len
  have lb3 := B3.len
  have lb4 := B4.len
  rw [List.length_map] at la1 la2 la3 la4 lb1 lb2 lb3 lb4
  (repeat' (first | (simp only [wp, extractV, exists_eq_left', if_true, if_false, ite_true, ite_false, reduceIte, Nat.reduceAdd, Nat.reduceLT, Nat.reduceLeDiff, Nat.reduceEqDiff, hb1, hb2, la1, la2, la3, la4, lb1, lb2, lb3, lb4, beq_self_eq_true]) | (with_reducible refine Run.gC ?_ ?_ <;> intro hb <;> try simp only [hb]) | (with_reducible refine Run.gG ?_ ?_ <;> intro hb <;> try simp only [hb]) | (with_reducible refine Run.gQ ?_ ?_ <;> intro hb <;> try simp only [hb])))
  refine Run.loop (N := (p.pgs).length) (fun k st K => st = [.bool false, iV k] ∧ H1 = K) ⟨rfl, rfl⟩ ?_
  rintro k st K hk ⟨rfl, hK⟩
  subst hK
  simp only [ferry_ferrylaw25_samePart_l1]
  by_cases hlt : k < (p.pgs).length
  · obtain ⟨px, hpx, hpp, _⟩ := (A1).idx (k := .i64) (i := k) (by rw [List.length_map]; exact hlt)
    obtain ⟨qx, hqx, hqq, _⟩ := (B1).idx (k := .i64) (i := k) (by rw [List.length_map]; exact hlt)
    rw [map_get hlt] at hpp hqq
    have ld := row_at hpp (n := 2) rfl
    have ld' := row_at hqq (n := 2) rfl
    (repeat' (first | (simp only [wp, extractV, exists_eq_left', if_true, if_false, ite_true, ite_false, reduceIte, Nat.reduceAdd, Nat.reduceLT, Nat.reduceLeDiff, Nat.reduceEqDiff, nltT hlt, hb1, hb2, hpx, hqx, ld, ld', eq_pg, nadd hlt hl.a]) | (with_reducible refine Run.gC ?_ ?_ <;> intro hb <;> try simp only [hb]) | (with_reducible refine Run.gG ?_ ?_ <;> intro hb <;> try simp only [hb]) | (with_reducible refine Run.gQ ?_ ?_ <;> intro hb <;> try simp only [hb])))
    exact hlt
  have hk0 : k = (p.pgs).length := by omega
  subst hk0
  (repeat' (first | (simp only [wp, extractV, exists_eq_left', if_true, if_false, ite_true, ite_false, reduceIte, Nat.reduceAdd, Nat.reduceLT, Nat.reduceLeDiff, Nat.reduceEqDiff, nltF hlt, hb1, hb2, la2]) | (with_reducible refine Run.gC ?_ ?_ <;> intro hb <;> try simp only [hb]) | (with_reducible refine Run.gG ?_ ?_ <;> intro hb <;> try simp only [hb]) | (with_reducible refine Run.gQ ?_ ?_ <;> intro hb <;> try simp only [hb])))
  clear hlt hk
  refine Run.loop (N := (p.prs).length) (fun k st K => st = [.bool false, iV k] ∧ H1 = K) ⟨rfl, rfl⟩ ?_
  rintro k st K hk ⟨rfl, hK⟩
  subst hK
  simp only [ferry_ferrylaw25_samePart_l2]
  by_cases hlt : k < (p.prs).length
  · obtain ⟨px, hpx, hpp, _⟩ := (A2).idx (k := .i64) (i := k) (by rw [List.length_map]; exact hlt)
    obtain ⟨qx, hqx, hqq, _⟩ := (B2).idx (k := .i64) (i := k) (by rw [List.length_map]; exact hlt)
    rw [map_get hlt] at hpp hqq
    have ld := row_at hpp (n := 3) rfl
    have ld' := row_at hqq (n := 3) rfl
    (repeat' (first | (simp only [wp, extractV, exists_eq_left', if_true, if_false, ite_true, ite_false, reduceIte, Nat.reduceAdd, Nat.reduceLT, Nat.reduceLeDiff, Nat.reduceEqDiff, nltT hlt, hb1, hb2, hpx, hqx, ld, ld', eq_pc, nadd hlt hl.b]) | (with_reducible refine Run.gC ?_ ?_ <;> intro hb <;> try simp only [hb]) | (with_reducible refine Run.gG ?_ ?_ <;> intro hb <;> try simp only [hb]) | (with_reducible refine Run.gQ ?_ ?_ <;> intro hb <;> try simp only [hb])))
    exact hlt
  have hk0 : k = (p.prs).length := by omega
  subst hk0
  (repeat' (first | (simp only [wp, extractV, exists_eq_left', if_true, if_false, ite_true, ite_false, reduceIte, Nat.reduceAdd, Nat.reduceLT, Nat.reduceLeDiff, Nat.reduceEqDiff, nltF hlt, hb1, hb2, la3]) | (with_reducible refine Run.gC ?_ ?_ <;> intro hb <;> try simp only [hb]) | (with_reducible refine Run.gG ?_ ?_ <;> intro hb <;> try simp only [hb]) | (with_reducible refine Run.gQ ?_ ?_ <;> intro hb <;> try simp only [hb])))
  clear hlt hk
  refine Run.loop (N := (p.pts).length) (fun k st K => st = [.bool false, iV k] ∧ H1 = K) ⟨rfl, rfl⟩ ?_
  rintro k st K hk ⟨rfl, hK⟩
  subst hK
  simp only [ferry_ferrylaw25_samePart_l3]
  by_cases hlt : k < (p.pts).length
  · obtain ⟨px, hpx, hpp, _⟩ := (A3).idx (k := .i64) (i := k) (by rw [List.length_map]; exact hlt)
    obtain ⟨qx, hqx, hqq, _⟩ := (B3).idx (k := .i64) (i := k) (by rw [List.length_map]; exact hlt)
    rw [map_get hlt] at hpp hqq
    have ld := row_at hpp (n := 4) rfl
    have ld' := row_at hqq (n := 4) rfl
    (repeat' (first | (simp only [wp, extractV, exists_eq_left', if_true, if_false, ite_true, ite_false, reduceIte, Nat.reduceAdd, Nat.reduceLT, Nat.reduceLeDiff, Nat.reduceEqDiff, nltT hlt, hb1, hb2, hpx, hqx, ld, ld', eq_pt, nadd hlt hl.c]) | (with_reducible refine Run.gC ?_ ?_ <;> intro hb <;> try simp only [hb]) | (with_reducible refine Run.gG ?_ ?_ <;> intro hb <;> try simp only [hb]) | (with_reducible refine Run.gQ ?_ ?_ <;> intro hb <;> try simp only [hb])))
    exact hlt
  have hk0 : k = (p.pts).length := by omega
  subst hk0
  (repeat' (first | (simp only [wp, extractV, exists_eq_left', if_true, if_false, ite_true, ite_false, reduceIte, Nat.reduceAdd, Nat.reduceLT, Nat.reduceLeDiff, Nat.reduceEqDiff, nltF hlt, hb1, hb2, la4]) | (with_reducible refine Run.gC ?_ ?_ <;> intro hb <;> try simp only [hb]) | (with_reducible refine Run.gG ?_ ?_ <;> intro hb <;> try simp only [hb]) | (with_reducible refine Run.gQ ?_ ?_ <;> intro hb <;> try simp only [hb])))
  clear hlt hk
  refine Run.loop (N := p.sems.length) (fun k st K => st = [.bool false, iV k] ∧ H1 = K) ⟨rfl, rfl⟩ ?_
  rintro k st K hk ⟨rfl, hK⟩
  subst hK
  simp only [ferry_ferrylaw25_samePart_l4]
  by_cases hlt : k < p.sems.length
  · obtain ⟨px, hpx, hpp, _⟩ := A4.idx (k := .i64) (i := k) (by rw [List.length_map]; exact hlt)
    obtain ⟨qx, hqx, hqq, _⟩ := B4.idx (k := .i64) (i := k) (by rw [List.length_map]; exact hlt)
    rw [map_get hlt] at hpp hqq
    have ld := fun Q => Run.loadAt (Q := Q) hpp (iR_at p.sems[k])
    have ld' := fun Q => Run.loadAt (Q := Q) hqq (iR_at p.sems[k])
    (repeat' (first | (simp only [wp, extractV, exists_eq_left', if_true, if_false, ite_true, ite_false, reduceIte, Nat.reduceAdd, Nat.reduceLT, Nat.reduceLeDiff, Nat.reduceEqDiff, nltT hlt, hb1, hb2, hpx, hqx, ld, ld', beq_self_eq_true, nadd hlt hl.d]) | (with_reducible refine Run.gC ?_ ?_ <;> intro hb <;> try simp only [hb]) | (with_reducible refine Run.gG ?_ ?_ <;> intro hb <;> try simp only [hb]) | (with_reducible refine Run.gQ ?_ ?_ <;> intro hb <;> try simp only [hb])))
    exact hlt
  have hk0 : k = p.sems.length := by omega
  subst hk0
  (repeat' (first | (simp only [wp, extractV, exists_eq_left', if_true, if_false, ite_true, ite_false, reduceIte, Nat.reduceAdd, Nat.reduceLT, Nat.reduceLeDiff, Nat.reduceEqDiff, nltF hlt]) | (with_reducible refine Run.gC ?_ ?_ <;> intro hb <;> try simp only [hb]) | (with_reducible refine Run.gG ?_ ?_ <;> intro hb <;> try simp only [hb]) | (with_reducible refine Run.gQ ?_ ?_ <;> intro hb <;> try simp only [hb])))
  exact f0

theorem LenB.of {p : Pl} (h : p.pgs.length * 24 ≤ room ∧ p.prs.length * 24 ≤ room ∧ p.pts.length * 32 ≤ room ∧ p.sems.length * 8 ≤ room) : LenB p := by
  have hr : room = 140737488355328 := rfl
  exact ⟨by omega, by omega, by omega, by omega⟩

set_option maxRecDepth 20000 in
theorem sameConfig_run (n : Nat) {H : Heap} {la lb : List V} {s : Sc} {ps hs ws ks is os ps' hs' ws' ks' is' os' : V} {rows rows' : List (List V)} (ha : ScR H la s ps hs ws ks is os rows) (hb : ScR H lb s ps' hs' ws' ks' is' os' rows') (hf : Fits s) (hfl : H.floor = 0) :
    Run (callV (cfg G) (sem (cfg G) (n + 2)) 85 [.agg [iV s.ticks, ps, hs, ws, ks, iV s.tries], .agg [iV s.ticks, ps', hs', ws', ks', iV s.tries]]) H fun v H' => Frame H H' (fun _ => False) ∧ v = .bool true := by
  obtain ⟨_, A1, A2, A3, A4, _, _, alen, arow, _, _⟩ := ha
  obtain ⟨_, B1, B2, B3, B4, _, _, blen, brow, _, _⟩ := hb
  have hr : room = 140737488355328 := rfl
  have e1 := hf.p
  have e2 := hf.h
  have e3 := hf.w
  have e4 := hf.k
  rw [callV_inl rfl, ferry_ferrylaw25_sameConfig_eq]
  simp only [ferry_ferrylaw25_sameConfig]
  rw [Run.out]
  refine Run.new2 fun H1 hn1 hf1 hb1 hb2 f0 => ?_
  rw [hfl] at hf1
  have A1 := A1.frame f0 fun _ _ => id
  have A2 := A2.frame f0 fun _ _ => id
  have A3 := A3.frame f0 fun _ _ => id
  have A4 := A4.frame f0 fun _ _ => id
  have B1 := B1.frame f0 fun _ _ => id
  have B2 := B2.frame f0 fun _ _ => id
  have B3 := B3.frame f0 fun _ _ => id
  have B4 := B4.frame f0 fun _ _ => id
  have la1 := A1.len
  have la2 := A2.len
  have la3 := A3.len
  have la4 := A4.len
  have lb1 := B1.len
  have lb2 := B2.len
  have lb3 := B3.len
  have lb4 := B4.len
  rw [alen] at la1
  rw [blen] at lb1
  rw [List.length_map] at la2 la3 la4 lb2 lb3 lb4
  (repeat' (first | (simp only [wp, extractV, exists_eq_left', if_true, if_false, ite_true, ite_false, reduceIte, Nat.reduceAdd, Nat.reduceLT, Nat.reduceLeDiff, Nat.reduceEqDiff, hb1, hb2, la1, la2, la3, la4, lb1, lb2, lb3, lb4, beq_self_eq_true]) | (with_reducible refine Run.gC ?_ ?_ <;> intro hb <;> try simp only [hb]) | (with_reducible refine Run.gG ?_ ?_ <;> intro hb <;> try simp only [hb]) | (with_reducible refine Run.gQ ?_ ?_ <;> intro hb <;> try simp only [hb])))
  have hn0 : H.next < H1.next := by omega
  have hn0' : H.next + 1 < H1.next := by omega
  -- parts
  refine Run.loop (N := s.parts.length) (fun k st K => st = [.bool false, iV k] ∧ Frame H1 K (fun _ => False)) ⟨rfl, Frame.refl _ _⟩ ?_
  rintro k st K hk ⟨rfl, fK⟩
  have hb1 := (fK.old _ hn0 id).trans hb1
  have hb2 := (fK.old _ hn0' id).trans hb2
  have A1K := A1.frame fK fun _ _ => id
  have B1K := B1.frame fK fun _ _ => id
  simp only [ferry_ferrylaw25_sameConfig_l1]
  by_cases hlt : k < s.parts.length
  · have hla : k < rows.length := by omega
    have hlb : k < rows'.length := by omega
    obtain ⟨px, hpx, hpp, _⟩ := A1K.idx (k := .i64) (i := k) hla
    obtain ⟨qx, hqx, hqq, _⟩ := B1K.idx (k := .i64) (i := k) hlb
    have pa := arow k hla
    have pb := brow k hlb
    have ld := row_at hpp (row7 pa)
    have ld' := row_at hqq (row7 pb)
    (repeat' (first | (simp only [wp, extractV, exists_eq_left', if_true, if_false, ite_true, ite_false, reduceIte, Nat.reduceAdd, Nat.reduceLT, Nat.reduceLeDiff, Nat.reduceEqDiff, nltT hlt, hb1, hb2, hpx, hqx, ld, ld']) | (with_reducible refine Run.gC ?_ ?_ <;> intro hb <;> try simp only [hb]) | (with_reducible refine Run.gG ?_ ?_ <;> intro hb <;> try simp only [hb]) | (with_reducible refine Run.gQ ?_ ?_ <;> intro hb <;> try simp only [hb])))
    refine Run.tMod (p := fun _ => False) (P := fun v _ => v = .bool true) (fun l hl => by simp [visB, Heap.add_next, Heap.set_next, Heap.q_next, Heap.empty_next] at hl ⊢; omega) (fK.floor.trans hf1) (fun _ _ e => e.elim) (fun K' hKn hKf hKb => ?_) fun y K' H' hy f _ _ _ => ?_
    · have f1 : ∀ l, l < H.next → K'.blk l = H.blk l := fun l hl => by
        rw [hKb l (by have := fK.next; omega), fK.old l (by omega) id, f0.old l hl id]
      have pa' : PlR K' (fun _ => True) rows[k] s.parts[k] := by
        obtain ⟨a, b, c, d, e, ra, rb, rc, rd, qa⟩ := pa
        have hle : H.next ≤ K'.next := by have := fK.next; omega
        exact ⟨a, b, c, d, e, ra.keep hle fun l hl => f1 l (ra.lt hl), rb.keep hle fun l hl => f1 l (rb.lt hl), rc.keep hle fun l hl => f1 l (rc.lt hl), rd.keep hle fun l hl => f1 l (rd.lt hl), qa⟩
      have pb' : PlR K' (fun _ => True) rows'[k] s.parts[k] := by
        obtain ⟨a, b, c, d, e, ra, rb, rc, rd, qa⟩ := pb
        have hle : H.next ≤ K'.next := by have := fK.next; omega
        exact ⟨a, b, c, d, e, ra.keep hle fun l hl => f1 l (ra.lt hl), rb.keep hle fun l hl => f1 l (rb.lt hl), rc.keep hle fun l hl => f1 l (rc.lt hl), rd.keep hle fun l hl => f1 l (rd.lt hl), qa⟩
      exact samePart_run n pa' pb' (LenB.of (hf.pp _ (List.getElem_mem hlt)))
    · subst hy
      (repeat' (first | (simp only [wp, extractV, exists_eq_left', if_true, if_false, ite_true, ite_false, reduceIte, Nat.reduceAdd, Nat.reduceLT, Nat.reduceLeDiff, Nat.reduceEqDiff, nadd hlt (show s.parts.length ≤ 9223372036854775807 by omega)]) | (with_reducible refine Run.gC ?_ ?_ <;> intro hb <;> try simp only [hb]) | (with_reducible refine Run.gG ?_ ?_ <;> intro hb <;> try simp only [hb]) | (with_reducible refine Run.gQ ?_ ?_ <;> intro hb <;> try simp only [hb])))
      exact ⟨hlt, fK.tr f⟩
  have hk0 : k = s.parts.length := by omega
  subst hk0
  (repeat' (first | (simp only [wp, extractV, exists_eq_left', if_true, if_false, ite_true, ite_false, reduceIte, Nat.reduceAdd, Nat.reduceLT, Nat.reduceLeDiff, Nat.reduceEqDiff, nltF hlt, hb1, hb2, la2]) | (with_reducible refine Run.gC ?_ ?_ <;> intro hb <;> try simp only [hb]) | (with_reducible refine Run.gG ?_ ?_ <;> intro hb <;> try simp only [hb]) | (with_reducible refine Run.gQ ?_ ?_ <;> intro hb <;> try simp only [hb])))
  clear hlt hk
  have f2 := f0.tr fK
  have hn1 := fK.next
  have A2 := A2.frame fK fun _ _ => id
  have A3 := A3.frame fK fun _ _ => id
  have A4 := A4.frame fK fun _ _ => id
  have B2 := B2.frame fK fun _ _ => id
  have B3 := B3.frame fK fun _ _ => id
  have B4 := B4.frame fK fun _ _ => id
  -- homes
  refine Run.loop (N := s.homes.length) (fun k st K' => st = [.bool false, iV k] ∧ K = K') ⟨rfl, rfl⟩ ?_
  rintro k st K' hk ⟨rfl, hK⟩
  subst hK
  simp only [ferry_ferrylaw25_sameConfig_l2]
  by_cases hlt : k < s.homes.length
  · obtain ⟨px, hpx, hpp, _⟩ := A2.idx (k := .i64) (i := k) (by rw [List.length_map]; exact hlt)
    obtain ⟨qx, hqx, hqq, _⟩ := B2.idx (k := .i64) (i := k) (by rw [List.length_map]; exact hlt)
    rw [map_get hlt] at hpp hqq
    have ld := fun Q => Run.loadAt (Q := Q) hpp (iR_at s.homes[k])
    have ld' := fun Q => Run.loadAt (Q := Q) hqq (iR_at s.homes[k])
    (repeat' (first | (simp only [wp, extractV, exists_eq_left', if_true, if_false, ite_true, ite_false, reduceIte, Nat.reduceAdd, Nat.reduceLT, Nat.reduceLeDiff, Nat.reduceEqDiff, nltT hlt, hb1, hb2, hpx, hqx, ld, ld', beq_self_eq_true, nadd hlt (show s.homes.length ≤ 9223372036854775807 by omega)]) | (with_reducible refine Run.gC ?_ ?_ <;> intro hb <;> try simp only [hb]) | (with_reducible refine Run.gG ?_ ?_ <;> intro hb <;> try simp only [hb]) | (with_reducible refine Run.gQ ?_ ?_ <;> intro hb <;> try simp only [hb])))
    exact hlt
  have hk0 : k = s.homes.length := by omega
  subst hk0
  (repeat' (first | (simp only [wp, extractV, exists_eq_left', if_true, if_false, ite_true, ite_false, reduceIte, Nat.reduceAdd, Nat.reduceLT, Nat.reduceLeDiff, Nat.reduceEqDiff, nltF hlt, hb1, hb2, la3]) | (with_reducible refine Run.gC ?_ ?_ <;> intro hb <;> try simp only [hb]) | (with_reducible refine Run.gG ?_ ?_ <;> intro hb <;> try simp only [hb]) | (with_reducible refine Run.gQ ?_ ?_ <;> intro hb <;> try simp only [hb])))
  clear hlt hk
  refine Run.loop (N := (s.wins).length) (fun k st K' => st = [.bool false, iV k] ∧ K = K') ⟨rfl, rfl⟩ ?_
  rintro k st K' hk ⟨rfl, hK⟩
  subst hK
  simp only [ferry_ferrylaw25_sameConfig_l3]
  by_cases hlt : k < (s.wins).length
  · obtain ⟨px, hpx, hpp, _⟩ := (A3).idx (k := .i64) (i := k) (by rw [List.length_map]; exact hlt)
    obtain ⟨qx, hqx, hqq, _⟩ := (B3).idx (k := .i64) (i := k) (by rw [List.length_map]; exact hlt)
    rw [map_get hlt] at hpp hqq
    have ld := row_at hpp (n := 3) rfl
    have ld' := row_at hqq (n := 3) rfl
    (repeat' (first | (simp only [wp, extractV, exists_eq_left', if_true, if_false, ite_true, ite_false, reduceIte, Nat.reduceAdd, Nat.reduceLT, Nat.reduceLeDiff, Nat.reduceEqDiff, nltT hlt, hb1, hb2, hpx, hqx, ld, ld', eq_wn, nadd hlt (show (s.wins).length ≤ 9223372036854775807 by omega)]) | (with_reducible refine Run.gC ?_ ?_ <;> intro hb <;> try simp only [hb]) | (with_reducible refine Run.gG ?_ ?_ <;> intro hb <;> try simp only [hb]) | (with_reducible refine Run.gQ ?_ ?_ <;> intro hb <;> try simp only [hb])))
    exact hlt
  have hk0 : k = (s.wins).length := by omega
  subst hk0
  (repeat' (first | (simp only [wp, extractV, exists_eq_left', if_true, if_false, ite_true, ite_false, reduceIte, Nat.reduceAdd, Nat.reduceLT, Nat.reduceLeDiff, Nat.reduceEqDiff, nltF hlt, hb1, hb2, la4]) | (with_reducible refine Run.gC ?_ ?_ <;> intro hb <;> try simp only [hb]) | (with_reducible refine Run.gG ?_ ?_ <;> intro hb <;> try simp only [hb]) | (with_reducible refine Run.gQ ?_ ?_ <;> intro hb <;> try simp only [hb])))
  clear hlt hk
  refine Run.loop (N := (s.links).length) (fun k st K' => st = [.bool false, iV k] ∧ K = K') ⟨rfl, rfl⟩ ?_
  rintro k st K' hk ⟨rfl, hK⟩
  subst hK
  simp only [ferry_ferrylaw25_sameConfig_l4]
  by_cases hlt : k < (s.links).length
  · obtain ⟨px, hpx, hpp, _⟩ := (A4).idx (k := .i64) (i := k) (by rw [List.length_map]; exact hlt)
    obtain ⟨qx, hqx, hqq, _⟩ := (B4).idx (k := .i64) (i := k) (by rw [List.length_map]; exact hlt)
    rw [map_get hlt] at hpp hqq
    have ld := row_at hpp (n := 4) rfl
    have ld' := row_at hqq (n := 4) rfl
    (repeat' (first | (simp only [wp, extractV, exists_eq_left', if_true, if_false, ite_true, ite_false, reduceIte, Nat.reduceAdd, Nat.reduceLT, Nat.reduceLeDiff, Nat.reduceEqDiff, nltT hlt, hb1, hb2, hpx, hqx, ld, ld', eq_q4, nadd hlt (show (s.links).length ≤ 9223372036854775807 by omega)]) | (with_reducible refine Run.gC ?_ ?_ <;> intro hb <;> try simp only [hb]) | (with_reducible refine Run.gG ?_ ?_ <;> intro hb <;> try simp only [hb]) | (with_reducible refine Run.gQ ?_ ?_ <;> intro hb <;> try simp only [hb])))
    exact hlt
  have hk0 : k = (s.links).length := by omega
  subst hk0
  (repeat' (first | (simp only [wp, extractV, exists_eq_left', if_true, if_false, ite_true, ite_false, reduceIte, Nat.reduceAdd, Nat.reduceLT, Nat.reduceLeDiff, Nat.reduceEqDiff, nltF hlt, hb1, hb2, la4]) | (with_reducible refine Run.gC ?_ ?_ <;> intro hb <;> try simp only [hb]) | (with_reducible refine Run.gG ?_ ?_ <;> intro hb <;> try simp only [hb]) | (with_reducible refine Run.gQ ?_ ?_ <;> intro hb <;> try simp only [hb])))
  exact f2

set_option maxRecDepth 20000 in
theorem sameScript_run (n : Nat) {H : Heap} {la lb : List V} {s : Sc} {ps hs ws ks is os ps' hs' ws' ks' is' os' : V} {rows rows' : List (List V)} (ha : ScR H la s ps hs ws ks is os rows) (hb : ScR H lb s ps' hs' ws' ks' is' os' rows') (hf : Fits s) (hfl : H.floor = 0) :
    Run (callV (cfg G) (sem (cfg G) (n + 3)) 29 [.agg la, .agg lb]) H fun v H' => Frame H H' (fun _ => False) ∧ v = .bool true := by
  have ha0 := ha
  have hb0 := hb
  obtain ⟨rfl, A1, A2, A3, A4, A5, A6, alen, arow, asm, abn⟩ := ha
  obtain ⟨rfl, B1, B2, B3, B4, B5, B6, blen, brow, bsm, bbn⟩ := hb
  have hr : room = 140737488355328 := rfl
  have e5 := hf.i
  have e6 := hf.o
  rw [callV_inl rfl, ferry_ferrylaw25_sameScript_eq]
  simp only [ferry_ferrylaw25_sameScript]
  rw [Run.out]
  refine Run.new2 fun H1 hn1 hf1 hb1 hb2 f0 => ?_
  rw [hfl] at hf1
  have fr : ∀ {l : List V} {ps hs ws ks is os : V} {rows : List (List V)}, ScR H l s ps hs ws ks is os rows → ScR H1 l s ps hs ws ks is os rows := fun h =>
    ⟨h.eq, h.p.frame f0 fun _ _ => id, h.h.frame f0 fun _ _ => id, h.w.frame f0 fun _ _ => id, h.k.frame f0 fun _ _ => id, h.i.frame f0 fun _ _ => id, h.o.frame f0 fun _ _ => id, h.len, fun j hj => (h.row j hj).frame f0 fun _ _ => id, h.small, h.bnd⟩
  (repeat' (first | (simp only [wp, extractV, exists_eq_left', if_true, if_false, ite_true, ite_false, reduceIte, Nat.reduceAdd, Nat.reduceLT, Nat.reduceLeDiff, Nat.reduceEqDiff, hb1, hb2]) | (with_reducible refine Run.gC ?_ ?_ <;> intro hb <;> try simp only [hb]) | (with_reducible refine Run.gG ?_ ?_ <;> intro hb <;> try simp only [hb]) | (with_reducible refine Run.gQ ?_ ?_ <;> intro hb <;> try simp only [hb])))
  refine (sameConfig_run n (fr ha0) (fr hb0) hf hf1).mono fun v K ⟨fK, hv⟩ => ?_
  subst hv
  have hb1 := (fK.old _ (by omega) id).trans hb1
  have hb2 := (fK.old _ (by omega) id).trans hb2
  have A5 := (A5.frame f0 fun _ _ => id).frame fK fun _ _ => id
  have A6 := (A6.frame f0 fun _ _ => id).frame fK fun _ _ => id
  have B5 := (B5.frame f0 fun _ _ => id).frame fK fun _ _ => id
  have B6 := (B6.frame f0 fun _ _ => id).frame fK fun _ _ => id
  have la5 := A5.len
  have la6 := A6.len
  have lb5 := B5.len
  have lb6 := B6.len
  rw [List.length_map] at la5 la6 lb5 lb6
  have f2 := f0.tr fK
  (repeat' (first | (simp only [wp, extractV, exists_eq_left', if_true, if_false, ite_true, ite_false, reduceIte, Nat.reduceAdd, Nat.reduceLT, Nat.reduceLeDiff, Nat.reduceEqDiff, hb1, hb2, la5, la6, lb5, lb6, beq_self_eq_true]) | (with_reducible refine Run.gC ?_ ?_ <;> intro hb <;> try simp only [hb]) | (with_reducible refine Run.gG ?_ ?_ <;> intro hb <;> try simp only [hb]) | (with_reducible refine Run.gQ ?_ ?_ <;> intro hb <;> try simp only [hb])))
  refine Run.loop (N := (s.ins).length) (fun k st K' => st = [.bool false, iV k] ∧ K = K') ⟨rfl, rfl⟩ ?_
  rintro k st K' hk ⟨rfl, hK⟩
  subst hK
  simp only [ferry_ferrylaw25_sameScript_l1]
  by_cases hlt : k < (s.ins).length
  · obtain ⟨px, hpx, hpp, _⟩ := (A5).idx (k := .i64) (i := k) (by rw [List.length_map]; exact hlt)
    obtain ⟨qx, hqx, hqq, _⟩ := (B5).idx (k := .i64) (i := k) (by rw [List.length_map]; exact hlt)
    rw [map_get hlt] at hpp hqq
    have ld := row_at hpp (n := 4) rfl
    have ld' := row_at hqq (n := 4) rfl
    (repeat' (first | (simp only [wp, extractV, exists_eq_left', if_true, if_false, ite_true, ite_false, reduceIte, Nat.reduceAdd, Nat.reduceLT, Nat.reduceLeDiff, Nat.reduceEqDiff, nltT hlt, hb1, hb2, hpx, hqx, ld, ld', eq_in, nadd hlt (show (s.ins).length ≤ 9223372036854775807 by omega)]) | (with_reducible refine Run.gC ?_ ?_ <;> intro hb <;> try simp only [hb]) | (with_reducible refine Run.gG ?_ ?_ <;> intro hb <;> try simp only [hb]) | (with_reducible refine Run.gQ ?_ ?_ <;> intro hb <;> try simp only [hb])))
    exact hlt
  have hk0 : k = (s.ins).length := by omega
  subst hk0
  (repeat' (first | (simp only [wp, extractV, exists_eq_left', if_true, if_false, ite_true, ite_false, reduceIte, Nat.reduceAdd, Nat.reduceLT, Nat.reduceLeDiff, Nat.reduceEqDiff, nltF hlt, hb1, hb2, la6]) | (with_reducible refine Run.gC ?_ ?_ <;> intro hb <;> try simp only [hb]) | (with_reducible refine Run.gG ?_ ?_ <;> intro hb <;> try simp only [hb]) | (with_reducible refine Run.gQ ?_ ?_ <;> intro hb <;> try simp only [hb])))
  clear hlt hk
  refine Run.loop (N := (s.ops).length) (fun k st K' => st = [.bool false, iV k] ∧ K = K') ⟨rfl, rfl⟩ ?_
  rintro k st K' hk ⟨rfl, hK⟩
  subst hK
  simp only [ferry_ferrylaw25_sameScript_l2]
  by_cases hlt : k < (s.ops).length
  · obtain ⟨px, hpx, hpp, _⟩ := (A6).idx (k := .i64) (i := k) (by rw [List.length_map]; exact hlt)
    obtain ⟨qx, hqx, hqq, _⟩ := (B6).idx (k := .i64) (i := k) (by rw [List.length_map]; exact hlt)
    rw [map_get hlt] at hpp hqq
    have ld := row_at hpp (n := 4) rfl
    have ld' := row_at hqq (n := 4) rfl
    (repeat' (first | (simp only [wp, extractV, exists_eq_left', if_true, if_false, ite_true, ite_false, reduceIte, Nat.reduceAdd, Nat.reduceLT, Nat.reduceLeDiff, Nat.reduceEqDiff, nltT hlt, hb1, hb2, hpx, hqx, ld, ld', eq_q4, nadd hlt (show (s.ops).length ≤ 9223372036854775807 by omega)]) | (with_reducible refine Run.gC ?_ ?_ <;> intro hb <;> try simp only [hb]) | (with_reducible refine Run.gG ?_ ?_ <;> intro hb <;> try simp only [hb]) | (with_reducible refine Run.gQ ?_ ?_ <;> intro hb <;> try simp only [hb])))
    exact hlt
  have hk0 : k = (s.ops).length := by omega
  subst hk0
  (repeat' (first | (simp only [wp, extractV, exists_eq_left', if_true, if_false, ite_true, ite_false, reduceIte, Nat.reduceAdd, Nat.reduceLT, Nat.reduceLeDiff, Nat.reduceEqDiff, nltF hlt, hb1, hb2, la6]) | (with_reducible refine Run.gC ?_ ?_ <;> intro hb <;> try simp only [hb]) | (with_reducible refine Run.gG ?_ ?_ <;> intro hb <;> try simp only [hb]) | (with_reducible refine Run.gQ ?_ ?_ <;> intro hb <;> try simp only [hb])))
  exact f2
end Go.Fv.Tr
