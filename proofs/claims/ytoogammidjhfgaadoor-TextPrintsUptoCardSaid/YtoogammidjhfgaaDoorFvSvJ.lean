/-
  The law about Print. By an AI agent; no person has read it.
-/
import Derived.Test.YtoogammidjhfgaaDoorFvSvI
set_option linter.unusedVariables false
set_option linter.unusedSimpArgs false
set_option linter.unusedSectionVars false
/-! The law about Print. -/
namespace Go.Fv.Tr
open Go Go.Fv Go.Proofs
set_option linter.unusedSimpArgs false
set_option linter.unusedVariables false

theorem tabX : tabOf GX = true := by kernel_rfl
theorem ScS.rd {H : Heap} {l : List V} {s : Sc} {ps hs ws ks is os : V} {rows : List (List V)} (h : ScS l s ps hs ws ks is os rows) : ScR H l s ps hs ws ks is os rows :=
  ⟨h.eq, .sls h.p, .sls h.h, .sls h.w, .sls h.k, .sls h.i, .sls h.o, h.len, fun j hj => (h.row j hj).rd.imp fun _ _ _ => trivial, h.small, h.bnd⟩
theorem ScR.fr {H H1 : Heap} {l : List V} {s : Sc} {ps hs ws ks is os : V} {rows : List (List V)} (h : ScR H l s ps hs ws ks is os rows) (f0 : Frame H H1 (fun _ => False)) : ScR H1 l s ps hs ws ks is os rows :=
  ⟨h.eq, h.p.frame f0 fun _ _ => id, h.h.frame f0 fun _ _ => id, h.w.frame f0 fun _ _ => id, h.k.frame f0 fun _ _ => id, h.i.frame f0 fun _ _ => id, h.o.frame f0 fun _ _ => id, h.len, fun j hj => (h.row j hj).frame f0 fun _ _ => id, h.small, h.bnd⟩
theorem m1G : decide ((0 : Int) ≤ -1) = false := rfl
theorem nnG (k : Nat) : decide ((0 : Int) ≤ (k : Int)) = true := decide_eq_true (by omega)
theorem ext0 (x y : V) : extractV (.tuple [x, y]) 0 = some x := rfl
theorem ext1 (x y : V) : extractV (.tuple [x, y]) 1 = some y := rfl

set_option maxRecDepth 20000 in
theorem prints_run {l : List V} {s : Sc} {ps hs ws ks is os : V} {rows : List (List V)} (h : ScS l s ps hs ws ks is os rows) (hfit : Fits s) (hN : chk s = none → ScN s) :
    Run (sem (cfg GX) 11 5 [.agg l]) Heap.empty fun v _ => v = .bool true := by
  rw [ferry_ferrylaw25_TextPrints_eq]
  simp only [ferry_ferrylaw25_TextPrints]
  have hl8 : l.length = 8 := by rw [h.eq]; rfl
  have l8 : 8 ≤ l.length := by omega
  have t8 : l.take 8 = l := List.take_of_length_le (by omega)
  (repeat' (first | (simp only [wp, extractV, exists_eq_left', if_true, if_false, ite_true, ite_false, reduceIte, Nat.reduceAdd, Nat.reduceLT, Nat.reduceLeDiff, Nat.reduceEqDiff, awake_eq, l8, t8]) | (with_reducible refine Run.gC ?_ ?_ <;> intro hb <;> try simp only [hb]) | (with_reducible refine Run.gG ?_ ?_ <;> intro hb <;> try simp only [hb]) | (with_reducible refine Run.gQ ?_ ?_ <;> intro hb <;> try simp only [hb])))
  refine (copy_run 9 h hfit rfl).mono fun v H1 hv => ?_
  obtain ⟨f1, hf1, l', ps', hs', ws', ks', is', os', rows', rfl, h'⟩ := hv
  have hl8' : l'.length = 8 := by rw [h'.eq]; rfl
  have l8' : 8 ≤ l'.length := by omega
  have t8' : l'.take 8 = l' := List.take_of_length_le (by omega)
  have hn1 : 0 < H1.next := f1.next
  have hb0 : H1.blk 0 = some ⟨8, [l]⟩ := by rw [f1.old 0 (by show 0 < 1; omega) id, ← hl8, Heap.add_blk]; exact if_pos rfl
  (repeat' (first | (simp only [wp, extractV, exists_eq_left', if_true, if_false, ite_true, ite_false, reduceIte, Nat.reduceAdd, Nat.reduceLT, Nat.reduceLeDiff, Nat.reduceEqDiff, hf1, hl8', l8', t8']) | (with_reducible refine Run.gC ?_ ?_ <;> intro hb <;> try simp only [hb]) | (with_reducible refine Run.gG ?_ ?_ <;> intro hb <;> try simp only [hb]) | (with_reducible refine Run.gQ ?_ ?_ <;> intro hb <;> try simp only [hb])))
  have f2 : Frame H1 ((H1.add ⟨8, [[.int .i64 0, .nils, .nils, .nils, .nils, .int .i64 0, .nils, .nils]]⟩).set H1.next ⟨8, [l']⟩) (fun _ => False) := (Frame.add _ _).st (Nat.le_refl _) _
  have hb2 : ((H1.add ⟨8, [[.int .i64 0, .nils, .nils, .nils, .nils, .int .i64 0, .nils, .nils]]⟩).set H1.next ⟨8, [l']⟩).blk H1.next = some ⟨8, [l']⟩ := by rw [Heap.set_blk, if_pos rfl]
  have hn2 : ((H1.add ⟨8, [[.int .i64 0, .nils, .nils, .nils, .nils, .int .i64 0, .nils, .nils]]⟩).set H1.next ⟨8, [l']⟩).next = H1.next + 1 := rfl
  have hb02 := (f2.old 0 hn1 id).trans hb0
  have hf2 := f2.floor.trans hf1
  generalize (H1.add ⟨8, [[.int .i64 0, .nils, .nils, .nils, .nils, .int .i64 0, .nils, .nils]]⟩).set H1.next ⟨8, [l']⟩ = H2 at f2 hb2 hn2 hb02 hf2 ⊢
  refine (print_run tabX glob_arg 4 (h'.fr f2) hf2 hN).mono fun v H3 ⟨f3, hv⟩ => ?_
  have hb3 := (f3.old _ (by omega) id).trans hb2
  have hb03 := (f3.old 0 (by omega) id).trans hb02
  have hf3 := f3.floor.trans hf2
  have hn3 := f3.next
  rcases hv with ⟨hc, rfl⟩ | ⟨k, lb, hc, rfl, hbe, hlb⟩
  · (repeat' (first | (simp only [wp, extractV, exists_eq_left', if_true, if_false, ite_true, ite_false, reduceIte, Nat.reduceAdd, Nat.reduceLT, Nat.reduceLeDiff, Nat.reduceEqDiff, ext0, ext1, hb3, hb03, l8, t8, l8', t8']) | (with_reducible refine Run.gC ?_ ?_ <;> intro hb <;> try simp only [hb]) | (with_reducible refine Run.gG ?_ ?_ <;> intro hb <;> try simp only [hb]) | (with_reducible refine Run.gQ ?_ ?_ <;> intro hb <;> try simp only [hb])))
    refine (sameScript_run 7 ((h'.fr f2).fr f3) h.rd hfit hf3).mono fun v H4 ⟨f4, hv⟩ => ?_
    subst hv
    have hb04 := (f4.old 0 (by omega) id).trans hb03
    (repeat' (first | (simp only [wp, extractV, exists_eq_left', if_true, if_false, ite_true, ite_false, reduceIte, Nat.reduceAdd, Nat.reduceLT, Nat.reduceLeDiff, Nat.reduceEqDiff, hb04, l8, t8, refCheck_spec 9 h, show chkI (chk s) = -1 by rw [hc]; rfl, m1G, nn_nil, refPrint_spec 5 h (hN hc), beq_self_eq_true]) | (with_reducible refine Run.gC ?_ ?_ <;> intro hb <;> try simp only [hb]) | (with_reducible refine Run.gG ?_ ?_ <;> intro hb <;> try simp only [hb]) | (with_reducible refine Run.gQ ?_ ?_ <;> intro hb <;> try simp only [hb])))
  · (repeat' (first | (simp only [wp, extractV, exists_eq_left', if_true, if_false, ite_true, ite_false, reduceIte, Nat.reduceAdd, Nat.reduceLT, Nat.reduceLeDiff, Nat.reduceEqDiff, ext0, ext1, hb3, hb03, l8, t8, l8', t8']) | (with_reducible refine Run.gC ?_ ?_ <;> intro hb <;> try simp only [hb]) | (with_reducible refine Run.gG ?_ ?_ <;> intro hb <;> try simp only [hb]) | (with_reducible refine Run.gQ ?_ ?_ <;> intro hb <;> try simp only [hb])))
    refine (sameScript_run 7 ((h'.fr f2).fr f3) h.rd hfit hf3).mono fun v H4 ⟨f4, hv⟩ => ?_
    subst hv
    have hb04 := (f4.old 0 (by omega) id).trans hb03
    have hbe4 := (f4.old lb hlb id).trans hbe
    (repeat' (first | (simp only [wp, extractV, exists_eq_left', if_true, if_false, ite_true, ite_false, reduceIte, Nat.reduceAdd, Nat.reduceLT, Nat.reduceLeDiff, Nat.reduceEqDiff, hb04, l8, t8, refCheck_spec 9 h, show chkI (chk s) = k by rw [hc]; rfl, nnG k, mt_bs, beq_self_eq_true]) | (with_reducible refine Run.gC ?_ ?_ <;> intro hb <;> try simp only [hb]) | (with_reducible refine Run.gG ?_ ?_ <;> intro hb <;> try simp only [hb]) | (with_reducible refine Run.gQ ?_ ?_ <;> intro hb <;> try simp only [hb])))
    refine code_at hbe4 ?_
    (repeat' (first | (simp only [wp, extractV, exists_eq_left', if_true, if_false, ite_true, ite_false, reduceIte, Nat.reduceAdd, Nat.reduceLT, Nat.reduceLeDiff, Nat.reduceEqDiff, beq_self_eq_true]) | (with_reducible refine Run.gC ?_ ?_ <;> intro hb <;> try simp only [hb]) | (with_reducible refine Run.gG ?_ ?_ <;> intro hb <;> try simp only [hb]) | (with_reducible refine Run.gQ ?_ ?_ <;> intro hb <;> try simp only [hb])))
    refine place_at hbe4 ?_
    (repeat' (first | (simp only [wp, extractV, exists_eq_left', if_true, if_false, ite_true, ite_false, reduceIte, Nat.reduceAdd, Nat.reduceLT, Nat.reduceLeDiff, Nat.reduceEqDiff, beq_self_eq_true]) | (with_reducible refine Run.gC ?_ ?_ <;> intro hb <;> try simp only [hb]) | (with_reducible refine Run.gG ?_ ?_ <;> intro hb <;> try simp only [hb]) | (with_reducible refine Run.gQ ?_ ?_ <;> intro hb <;> try simp only [hb])))
end Go.Fv.Tr
