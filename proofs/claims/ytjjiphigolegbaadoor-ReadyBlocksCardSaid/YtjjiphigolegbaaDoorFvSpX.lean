/-
  What the document's functions of the layer 9 answer: copied, woken. By an AI agent; no person has read it.
-/
import Derived.Test.YtjjiphigolegbaaDoorFvSpW
import Derived.Test.YtjjiphigolegbaaDoorFvTr10
set_option linter.unusedVariables false
set_option linter.unusedSimpArgs false
set_option linter.unusedSectionVars false
/-! What the document's functions of the layer 9 answer: copied, woken. -/
namespace Go.Fv.Tr
open Go Go.Fv Go.Fv.Pl Go.Proofs
set_option linter.unusedSimpArgs false
set_option linter.unusedVariables false
variable {G : Nat → Option (List V)}

theorem app_fresh {K : Heap} {y : V} {sz bytes : Nat} {rows : List (List V)} (hK : K.floor ≤ K.next) (hy : Sls y sz rows) (hr : rows.length * bytes ≤ room) :
    Run (Fv.appV sz bytes .emp y) K fun x' K' => Own K' x' sz rows ∧ Frame K K' (fun _ => False) ∧ ∀ l, loc x' = some l → K.next ≤ l := by
  refine (Run.app (bytes := bytes) hK (Own.emp K sz) (hy.items _) (by simpa using hr)).mono fun x' K' ⟨o, f, l⟩ => ⟨by simpa using o, f.mono (fun _ _ h => (by cases h)), fun k hk => (l k hk).elim (fun h => (by cases h)) id⟩
theorem tapp_fresh {H : Heap} {y : V} {sz bytes : Nat} {rows : List (List V)} {v : Nat → Bool} (hH : H.floor ≤ H.next) (hy : Sls y sz rows) (hr : rows.length * bytes ≤ room) :
    Run (trun v (Fv.appV sz bytes .emp y)) H fun x' H' => Own H' x' sz rows ∧ Frame H H' (fun _ => False) ∧ ∀ l, loc x' = some l → H.next ≤ l := by
  refine (Run.tapp (bytes := bytes) hH (Own.emp H sz) (fun _ h => by cases h) (hy.items _) (by simpa using hr)).mono fun x' K' ⟨o, f, l⟩ => ⟨by simpa using o, f.mono (fun _ _ h => (by cases h)), fun k hk => (l k hk).elim (fun h => (by cases h)) id⟩

theorem rcopied_spec (n : Nat) {x y z : V} {t : Tab} (h : IsTab x y z t) (hs : Small t) {H : Heap} (hH : H.floor ≤ H.next) :
    Run (callV (cfg G) (sem (cfg G) (n + 1)) 92 [.agg [x, y, z]]) H (NewTab H t) := by
  refine callV_own rfl (mapM_closedV (by simp [h.closed]) H) ?_
  rw [ferry_ferryref09_copied_eq]
  simp only [ferry_ferryref09_copied]
  (repeat' (first | (simp only [wp, extractV, exists_eq_left', if_true, if_false, ite_true, ite_false, reduceIte, Nat.reduceAdd, Nat.reduceLT, Nat.reduceLeDiff, Nat.reduceEqDiff, Run.slice0]) | (with_reducible refine Run.gC ?_ ?_ <;> intro hb <;> try simp only [hb]) | (with_reducible refine Run.gG ?_ ?_ <;> intro hb <;> try simp only [hb]) | (with_reducible refine Run.gQ ?_ ?_ <;> intro hb <;> try simp only [hb])))
  refine Run.qfresh (by exact Nat.zero_le _) (fun K _ hK => app_fresh hK h.p (by rw [List.length_map]; exact hs.p)) fun x1 H1 o1 f1 l1 => ?_
  have a1 : H1.blk 0 = some ⟨3, [[x, y, z]]⟩ := (f1.old 0 (by exact Nat.zero_lt_succ _) id).trans rfl
  have e1 : H1.floor = 0 := f1.floor
  have n1 : 2 ≤ H1.next := f1.next
  (repeat' (first | (simp only [wp, extractV, exists_eq_left', if_true, if_false, ite_true, ite_false, reduceIte, Nat.reduceAdd, Nat.reduceLT, Nat.reduceLeDiff, Nat.reduceEqDiff, a1, Run.slice0]) | (with_reducible refine Run.gC ?_ ?_ <;> intro hb <;> try simp only [hb]) | (with_reducible refine Run.gG ?_ ?_ <;> intro hb <;> try simp only [hb]) | (with_reducible refine Run.gQ ?_ ?_ <;> intro hb <;> try simp only [hb])))
  refine Run.qfresh (by omega) (fun K _ hK => app_fresh hK h.q (by rw [List.length_map]; exact hs.q)) fun x2 H2 o2 f2 l2 => ?_
  have a2 : H2.blk 0 = some ⟨3, [[x, y, z]]⟩ := (f2.old 0 (by omega) id).trans a1
  have e2 : H2.floor = 0 := f2.floor.trans e1
  have n2 := f2.next
  (repeat' (first | (simp only [wp, extractV, exists_eq_left', if_true, if_false, ite_true, ite_false, reduceIte, Nat.reduceAdd, Nat.reduceLT, Nat.reduceLeDiff, Nat.reduceEqDiff, a2, Run.slice0]) | (with_reducible refine Run.gC ?_ ?_ <;> intro hb <;> try simp only [hb]) | (with_reducible refine Run.gG ?_ ?_ <;> intro hb <;> try simp only [hb]) | (with_reducible refine Run.gQ ?_ ?_ <;> intro hb <;> try simp only [hb])))
  refine (tapp_fresh (by omega) h.s (by rw [List.length_map]; exact hs.s)).mono fun x3 H3 ⟨o3, f3, l3⟩ => ?_
  have n3 := f3.next
  have e3 : H3.floor = 0 := f3.floor.trans e2
  have b3 : H3.blk 1 = some ⟨3, [[.nils, .nils, .nils]]⟩ := (f3.old 1 (by omega) id).trans ((f2.old 1 (by omega) id).trans ((f1.old 1 (by exact Nat.lt_succ_self 1) id).trans rfl))
  (repeat' (first | (simp only [wp, extractV, exists_eq_left', if_true, if_false, ite_true, ite_false, reduceIte, Nat.reduceAdd, Nat.reduceLT, Nat.reduceLeDiff, Nat.reduceEqDiff, buildV, fill, putRow, o1.cells, o2.cells, o3.cells, b3, e3, tupV]) | (with_reducible refine Run.gC ?_ ?_ <;> intro hb <;> try simp only [hb]) | (with_reducible refine Run.gG ?_ ?_ <;> intro hb <;> try simp only [hb]) | (with_reducible refine Run.gQ ?_ ?_ <;> intro hb <;> try simp only [hb])))
  have fB : Frame H3 (H3.set 1 ⟨3, [[x1, x2, x3]]⟩) (fun k => k = 1) := Frame.set _ _ rfl
  have k1 : ∀ k, loc x1 = some k → 2 ≤ k := fun k hk => l1 k hk
  have k2 : ∀ k, loc x2 = some k → H1.next ≤ k := fun k hk => l2 k hk
  have k3 : ∀ k, loc x3 = some k → H2.next ≤ k := fun k hk => l3 k hk
  have oT : OwnTab (H3.set 1 ⟨3, [[x1, x2, x3]]⟩) x1 x2 x3 t := by
    refine ⟨((o1.frame f2 fun _ _ h => h).frame f3 fun _ _ h => h).frame fB fun k hk e => by have := k1 k hk; omega, (o2.frame f3 fun _ _ h => h).frame fB fun k hk e => by have := k2 k hk; omega, o3.frame fB fun k hk e => by have := k3 k hk; omega, fun k h1 h2 => ?_, fun k h1 h2 => ?_, fun k h1 h2 => ?_⟩
    · have := o1.lt h1; have := k2 k h2; omega
    · have := o1.lt h1; have := k3 k h2; omega
    · have := o2.lt h1; have := k3 k h2; omega
  exact oT.hand hH
end Go.Fv.Tr
