/-
  The law about Check. By an AI agent; no person has read it.
-/
import Derived.Test.YtgcjnpfidjfmmaaDoorFvStD
import Derived.Test.YtgcjnpfidjfmmaaDoorFvEv
import Derived.Test.YtgcjnpfidjfmmaaDoorFvGx
import Derived.RowKitTokens
set_option linter.unusedVariables false
set_option linter.unusedSimpArgs false
set_option linter.unusedSectionVars false
/-! The law about Check. -/
namespace Go.Fv.Tr
open Go Go.Fv Go.Proofs
set_option linter.unusedSimpArgs false
set_option linter.unusedVariables false

theorem glob_arg : glob (cfg GX) 10 = .iptr [errA] 0 := by kernel_rfl
set_option maxRecDepth 100000 in
theorem awakeX : playsTrue (cfg GX) 50 10 5 [] = true := by kernel_rfl
set_option maxRecDepth 100000 in
theorem codeX (k : Int) : (semC (cfg GX) 50 10 6 [.iface 53 (.iptr [iV k, errA] 0)] Heap.empty).map Prod.fst = some (.int .i64 12) := by kernel_rfl
set_option maxRecDepth 100000 in
theorem placeX (k : Int) : (semC (cfg GX) 50 10 10 [.iface 53 (.iptr [iV k, errA] 0)] Heap.empty).map Prod.fst = some (iV k) := by kernel_rfl

theorem run_of_plays {C : Cfg} {fuel n : Nat} {f : FuncId} {args : List V} {r : V} (h : (semC C fuel n f args Heap.empty).map Prod.fst = some r) : Run (sem C n f args) Heap.empty fun v _ => v = r := by
  cases e : semC C fuel n f args Heap.empty with
  | none => rw [e] at h; cases h
  | some x =>
    rw [e] at h
    exact ⟨x.1, x.2, sem_le fuel n f args _ _ e, Option.some.inj h⟩
theorem Run.callSeen {C : Cfg} {call : FuncId → List V → M V} {f : FuncId} {args bs : List V} {r : V} {Q : V → Heap → Prop} {H : Heap} (hk : C.kind f = .pure) (hm : args.mapM (thawV true H) = some bs)
    (hr : Run (call f bs) Heap.empty fun v _ => v = r) (hc : ∀ ok H', thawV ok H' r = some r) (q : Q r H) : Run (callV C call f args) H Q := by
  obtain ⟨v, H', e, rfl⟩ := hr
  refine ⟨v, H, ?_, q⟩
  simp only [callV, hk, callP, hm, Option.bind_some, e, hc]
  rfl
theorem thaw_i (ok : Bool) (H : Heap) (k : Int) : thawV ok H (iV k) = some (iV k) := by simp [thawV, Fv.thaw, V.flat]

theorem awake_eq : callV (cfg GX) (sem (cfg GX) 10) 5 [] = M.ret (.bool true) :=
  callV_pure0 rfl rfl rfl (by
    obtain ⟨H', h⟩ := plays_true awakeX
    exact ⟨_, H', h, rfl⟩)
theorem seen_at {H : Heap} {lb : Nat} {k : Int} (h : H.blk lb = some ⟨2, [[iV k, errA]]⟩) : [V.iface 53 (.ptr lb 0 0)].mapM (thawV true H) = some [.iface 53 (.iptr [iV k, errA] 0)] := by
  have : thawV true H (V.iface 53 (.ptr lb 0 0)) = some (.iface 53 (.iptr [iV k, errA] 0)) := by
    show Fv.thaw true H (V.iface 53 (.ptr lb 0 0)) = _
    simp only [Fv.thaw, h, Option.bind_some, List.getElem?_cons_zero]
    rfl
  simp [this]
theorem code_at {H : Heap} {lb : Nat} {k : Int} {Q : V → Heap → Prop} (h : H.blk lb = some ⟨2, [[iV k, errA]]⟩) (q : Q (.int .i64 12) H) : Run (callV (cfg GX) (sem (cfg GX) 10) 6 [.iface 53 (.ptr lb 0 0)]) H Q :=
  Run.callSeen rfl (seen_at h) (run_of_plays (codeX k)) (fun ok H' => thaw_i ok H' 12) q
theorem place_at {H : Heap} {lb : Nat} {k : Int} {Q : V → Heap → Prop} (h : H.blk lb = some ⟨2, [[iV k, errA]]⟩) (q : Q (iV k) H) : Run (callV (cfg GX) (sem (cfg GX) 10) 10 [.iface 53 (.ptr lb 0 0)]) H Q :=
  Run.callSeen rfl (seen_at h) (run_of_plays (placeX k)) (fun ok H' => thaw_i ok H' k) q

def sc1 : Sc := ⟨0, [], [1], [], [], 0, [], []⟩
abbrev hs1 : V := .ref 1 1 0 1 1 true
abbrev l1 : List V := [iV 0, .nils, hs1, .nils, .nils, iV 0, .nils, .nils]
theorem bc1 : buildV [.int .i64 0, .nils, .nils, .nils, .nils, .int .i64 0] [(2, 1, hs1)] = some (.agg [iV 0, .nils, hs1, .nils, .nils, iV 0]) := rfl
theorem bc2 : buildV [.int .i64 0, .nils, .nils, .nils, .nils, .int .i64 0, .nils, .nils] [(0, 6, .agg [iV 0, .nils, hs1, .nils, .nils, iV 0])] = some (.agg l1) := rfl
theorem scr1 (l : List V) : ScR ((Heap.empty.add ⟨l.length, [l]⟩).add ⟨1, [[iV 1]]⟩) l1 sc1 .nils hs1 .nils .nils .nils .nils [] :=
  ⟨rfl, .sls (.inr ⟨rfl, .inl rfl⟩), .inr ⟨1, 0, 1, 1, true, ⟨1, [[iV 1]]⟩, rfl, by rw [Heap.add_blk]; exact if_pos rfl, Nat.lt_succ_self _, Nat.le_refl _, rfl⟩, .sls (.inr ⟨rfl, .inl rfl⟩), .sls (.inr ⟨rfl, .inl rfl⟩), .sls (.inr ⟨rfl, .inl rfl⟩), .sls (.inr ⟨rfl, .inl rfl⟩), rfl,
    fun j hj => absurd hj (Nat.not_lt_zero _), Nat.zero_le _, fun p hp => by cases hp⟩
theorem chk1 : chk sc1 = some 0 := rfl
theorem nn_nil : eqV .iface true .nili .nili = some true := rfl
theorem checks_run {l : List V} {s : Sc} {ps hs ws ks is os : V} {rows : List (List V)} (h : ScS l s ps hs ws ks is os rows) (hfit : Fits s) :
    Run (sem (cfg GX) 11 3 [.agg l]) Heap.empty fun v _ => v = .bool true := by
  rw [ferry_ferrylaw25_TextChecks_eq]
  simp only [ferry_ferrylaw25_TextChecks]
  have hl8 : l.length = 8 := by rw [h.eq]; rfl
  (repeat' (first | (simp only [wp, extractV, exists_eq_left', if_true, if_false, ite_true, ite_false, reduceIte, Nat.reduceAdd, Nat.reduceLT, Nat.reduceLeDiff, Nat.reduceEqDiff, awake_eq, Run.slice, fillRows]) | (with_reducible refine Run.gC ?_ ?_ <;> intro hb <;> try simp only [hb]) | (with_reducible refine Run.gG ?_ ?_ <;> intro hb <;> try simp only [hb]) | (with_reducible refine Run.gQ ?_ ?_ <;> intro hb <;> try simp only [hb])))
  refine ⟨[[iV 1]], rfl, ?_⟩
  (repeat' (first | (simp only [wp, extractV, exists_eq_left', if_true, if_false, ite_true, ite_false, reduceIte, Nat.reduceAdd, Nat.reduceLT, Nat.reduceLeDiff, Nat.reduceEqDiff, bc1, bc2]) | (with_reducible refine Run.gC ?_ ?_ <;> intro hb <;> try simp only [hb]) | (with_reducible refine Run.gG ?_ ?_ <;> intro hb <;> try simp only [hb]) | (with_reducible refine Run.gQ ?_ ?_ <;> intro hb <;> try simp only [hb])))
  refine (check_run glob_arg 8 (scr1 l) rfl).mono fun v H1 ⟨f1, hv⟩ => ?_
  rcases hv with ⟨h0, _⟩ | ⟨k1, lb, h0, rfl, hb1⟩
  · rw [chk1] at h0; cases h0
  (repeat' (first | (simp only [wp, extractV, exists_eq_left', if_true, if_false, ite_true, ite_false, reduceIte, Nat.reduceAdd, Nat.reduceLT, Nat.reduceLeDiff, Nat.reduceEqDiff]) | (with_reducible refine Run.gC ?_ ?_ <;> intro hb <;> try simp only [hb]) | (with_reducible refine Run.gG ?_ ?_ <;> intro hb <;> try simp only [hb]) | (with_reducible refine Run.gQ ?_ ?_ <;> intro hb <;> try simp only [hb])))
  refine code_at hb1 ?_
  have hbk : H1.blk 0 = some ⟨8, [l]⟩ := by rw [f1.old 0 (by show 0 < 2; omega) id, Heap.add_blk, if_neg (by show ¬ (0 = 1); omega), hl8, Heap.add_blk]; exact if_pos rfl
  have hf1 : H1.floor = 0 := f1.floor
  have l8 : 8 ≤ l.length := by omega
  have t8 : l.take 8 = l := List.take_of_length_le (by omega)
  (repeat' (first | (simp only [wp, extractV, exists_eq_left', if_true, if_false, ite_true, ite_false, reduceIte, Nat.reduceAdd, Nat.reduceLT, Nat.reduceLeDiff, Nat.reduceEqDiff, hbk, hf1, l8, t8, refCheck_spec 9 h, beq_self_eq_true]) | (with_reducible refine Run.gC ?_ ?_ <;> intro hb <;> try simp only [hb]) | (with_reducible refine Run.gG ?_ ?_ <;> intro hb <;> try simp only [hb]) | (with_reducible refine Run.gQ ?_ ?_ <;> intro hb <;> try simp only [hb])))
  refine (copy_run 9 h hfit hf1).mono fun v H2 hv => ?_
  obtain ⟨f2, hf2, l', ps', hs', ws', ks', is', os', rows', rfl, h'⟩ := hv
  refine (check_run glob_arg 8 h' hf2).mono fun v H3 ⟨f3, hv⟩ => ?_
  rcases hv with ⟨h0, rfl⟩ | ⟨k, lb, h0, rfl, hb3⟩
  · rw [show chkI (chk s) = -1 by rw [h0]; rfl]
    (repeat' (first | (simp only [wp, extractV, exists_eq_left', if_true, if_false, ite_true, ite_false, reduceIte, Nat.reduceAdd, Nat.reduceLT, Nat.reduceLeDiff, Nat.reduceEqDiff, m1T, nn_nil]) | (with_reducible refine Run.gC ?_ ?_ <;> intro hb <;> try simp only [hb]) | (with_reducible refine Run.gG ?_ ?_ <;> intro hb <;> try simp only [hb]) | (with_reducible refine Run.gQ ?_ ?_ <;> intro hb <;> try simp only [hb])))
  · rw [show chkI (chk s) = k by rw [h0]; rfl]
    (repeat' (first | (simp only [wp, extractV, exists_eq_left', if_true, if_false, ite_true, ite_false, reduceIte, Nat.reduceAdd, Nat.reduceLT, Nat.reduceLeDiff, Nat.reduceEqDiff, nnF k]) | (with_reducible refine Run.gC ?_ ?_ <;> intro hb <;> try simp only [hb]) | (with_reducible refine Run.gG ?_ ?_ <;> intro hb <;> try simp only [hb]) | (with_reducible refine Run.gQ ?_ ?_ <;> intro hb <;> try simp only [hb])))
    refine code_at hb3 ?_
    (repeat' (first | (simp only [wp, extractV, exists_eq_left', if_true, if_false, ite_true, ite_false, reduceIte, Nat.reduceAdd, Nat.reduceLT, Nat.reduceLeDiff, Nat.reduceEqDiff, beq_self_eq_true]) | (with_reducible refine Run.gC ?_ ?_ <;> intro hb <;> try simp only [hb]) | (with_reducible refine Run.gG ?_ ?_ <;> intro hb <;> try simp only [hb]) | (with_reducible refine Run.gQ ?_ ?_ <;> intro hb <;> try simp only [hb])))
    refine place_at hb3 ?_
    (repeat' (first | (simp only [wp, extractV, exists_eq_left', if_true, if_false, ite_true, ite_false, reduceIte, Nat.reduceAdd, Nat.reduceLT, Nat.reduceLeDiff, Nat.reduceEqDiff, beq_self_eq_true]) | (with_reducible refine Run.gC ?_ ?_ <;> intro hb <;> try simp only [hb]) | (with_reducible refine Run.gG ?_ ?_ <;> intro hb <;> try simp only [hb]) | (with_reducible refine Run.gQ ?_ ?_ <;> intro hb <;> try simp only [hb])))
end Go.Fv.Tr
