/-
  Errors by their numbers; the law ReadyForms, run to its end. By an AI agent; no person has read it.
-/
import Derived.Test.YtjjiphigolegbabDoorFvSpF
import Derived.Test.YtjjiphigolegbabDoorFvTr6
set_option linter.unusedVariables false
set_option linter.unusedSimpArgs false
set_option linter.unusedSectionVars false
/-! Errors by their numbers; the law ReadyForms, run to its end. -/
namespace Go.Fv.Tr
open Go Go.Fv Go.Fv.Pl Go.Proofs
set_option linter.unusedSimpArgs false
set_option linter.unusedVariables false
variable {G : Nat → Option (List V)}

structure AErrs (G : Nat → Option (List V)) : Prop where
  at_ : ∀ g, isSent g = true → G g = some [errV g]
  hand : G 12 = some []
theorem AErrs.errs (h : AErrs G) : Errs G := ⟨h.at_ 0 rfl, h.at_ 3 rfl, h.at_ 1 rfl⟩
theorem glob_lt (hA : AErrs G) {j : Nat} (h : isSent j = true) : glob (cfg G) j = .iptr [errV j] 0 := glob_at (hA.at_ j h)
theorem sent_lt (hA : AErrs G) {j : Nat} (h : isSent j = true) : sentOf G j = true := by
  unfold sentOf; rw [hA.at_ j h]; simp [errV]
theorem is_spec (hA : AErrs G) {call : FuncId → List V → M V} {i j : Nat} (hi : isSent i = true) (hj : isSent j = true) : callV (cfg G) call 99 [errV i, errV j] = M.ret (.bool (i == j)) := by
  have e : callV (cfg G) call 99 [errV i, errV j] = M.lift (isX G [errV i, errV j]) := rfl
  rw [e]
  show M.lift (if i == j then some (V.bool true) else if sentOf G i && sentOf G j then some (V.bool false) else none) = _
  rw [sent_lt hA hi, sent_lt hA hj]
  cases h : i == j <;> rfl
theorem as_spec (hA : AErrs G) {call : FuncId → List V → M V} {i l k o : Nat} : callV (cfg G) call 98 [errV i, .iface 163 (.ptr l k o)] = M.ret (.bool false) := by
  have e : callV (cfg G) call 98 [errV i, .iface 163 (.ptr l k o)] = M.lift (asX G [errV i, .iface 163 (.ptr l k o)]) := rfl
  rw [e]
  show M.lift (if handOf G then some (V.bool false) else none) = _
  have : handOf G = true := by unfold handOf; rw [hA.hand]
  rw [this]; rfl
theorem as_spec0 {call : FuncId → List V → M V} {l k o : Nat} : callV (cfg G) call 98 [.nili, .iface 163 (.ptr l k o)] = M.ret (.bool false) := rfl
theorem iface_ptr {t : TypeId} {l i o : Nat} : ifaceV t (.ptr l i o) = some (.iface t (.ptr l i o)) := rfl

/-- The errors that tables and timers answer, and their numbers. -/
def Num (e : V) (c : Int) : Prop := (e = .nili ∧ c = 0) ∨ (e = errV 0 ∧ c = 9) ∨ (e = errV 3 ∧ c = 17) ∨ (e = errV 1 ∧ c = 12) ∨ (e = errV 2 ∧ c = 4)
theorem Num.closed {e : V} {c : Int} (h : Num e c) : e.closedV = true := by
  rcases h with ⟨rfl, _⟩ | ⟨rfl, _⟩ | ⟨rfl, _⟩ | ⟨rfl, _⟩ | ⟨rfl, _⟩ <;> rfl
set_option maxRecDepth 20000 in
theorem code_spec (hA : AErrs G) (n : Nat) {e : V} {c : Int} (h : Num e c) : callV (cfg G) (sem (cfg G) (n + 2)) 73 [e] = M.ret (.int .i64 c) := by
  have h115 : ∀ {g : Nat} {c : Int}, (g = 3 ∧ c = 17) ∨ (g = 1 ∧ c = 12) → callV (cfg G) (sem (cfg G) (n + 1)) 100 [errV g] = M.ret (.int .i64 c) := fun {g c} h => by
    refine callV_pure0 rfl rfl rfl ?_
    rw [ferry_api_code_eq]
    rcases h with ⟨rfl, rfl⟩ | ⟨rfl, rfl⟩
    · simp only [ferry_api_code]
      (repeat' (first | (simp only [wp, extractV, exists_eq_left', if_true, if_false, ite_true, ite_false, reduceIte, Nat.reduceAdd, Nat.reduceLT, Nat.reduceLeDiff, Nat.reduceEqDiff, glob_lt hA, is_spec hA, sents_ok, Nat.reduceBEq]) | (with_reducible refine Run.gC ?_ ?_ <;> intro hb <;> try simp only [hb]) | (with_reducible refine Run.gG ?_ ?_ <;> intro hb <;> try simp only [hb]) | (with_reducible refine Run.gQ ?_ ?_ <;> intro hb <;> try simp only [hb])))
    · simp only [ferry_api_code]
      (repeat' (first | (simp only [wp, extractV, exists_eq_left', if_true, if_false, ite_true, ite_false, reduceIte, Nat.reduceAdd, Nat.reduceLT, Nat.reduceLeDiff, Nat.reduceEqDiff, glob_lt hA, is_spec hA, sents_ok, Nat.reduceBEq]) | (with_reducible refine Run.gC ?_ ?_ <;> intro hb <;> try simp only [hb]) | (with_reducible refine Run.gG ?_ ?_ <;> intro hb <;> try simp only [hb]) | (with_reducible refine Run.gQ ?_ ?_ <;> intro hb <;> try simp only [hb])))
  refine callV_pure0 rfl (by simp [h.closed]) rfl ?_
  rw [ferry_api_Code_eq]
  rcases h with ⟨rfl, rfl⟩ | ⟨rfl, rfl⟩ | ⟨rfl, rfl⟩ | ⟨rfl, rfl⟩ | ⟨rfl, rfl⟩
  · simp only [ferry_api_Code]
    (repeat' (first | (simp only [wp, extractV, exists_eq_left', if_true, if_false, ite_true, ite_false, reduceIte, Nat.reduceAdd, Nat.reduceLT, Nat.reduceLeDiff, Nat.reduceEqDiff, glob_lt hA, is_spec hA, sents_ok, Nat.reduceBEq, eq_err]) | (with_reducible refine Run.gC ?_ ?_ <;> intro hb <;> try simp only [hb]) | (with_reducible refine Run.gG ?_ ?_ <;> intro hb <;> try simp only [hb]) | (with_reducible refine Run.gQ ?_ ?_ <;> intro hb <;> try simp only [hb])))
  · simp only [ferry_api_Code]
    (repeat' (first | (simp only [wp, extractV, exists_eq_left', if_true, if_false, ite_true, ite_false, reduceIte, Nat.reduceAdd, Nat.reduceLT, Nat.reduceLeDiff, Nat.reduceEqDiff, glob_lt hA, is_spec hA, sents_ok, Nat.reduceBEq, eq_err]) | (with_reducible refine Run.gC ?_ ?_ <;> intro hb <;> try simp only [hb]) | (with_reducible refine Run.gG ?_ ?_ <;> intro hb <;> try simp only [hb]) | (with_reducible refine Run.gQ ?_ ?_ <;> intro hb <;> try simp only [hb])))
  · simp only [ferry_api_Code]
    (repeat' (first | (simp only [wp, extractV, exists_eq_left', if_true, if_false, ite_true, ite_false, reduceIte, Nat.reduceAdd, Nat.reduceLT, Nat.reduceLeDiff, Nat.reduceEqDiff, glob_lt hA, is_spec hA, sents_ok, Nat.reduceBEq, eq_err, h115 (.inl ⟨rfl, rfl⟩)]) | (with_reducible refine Run.gC ?_ ?_ <;> intro hb <;> try simp only [hb]) | (with_reducible refine Run.gG ?_ ?_ <;> intro hb <;> try simp only [hb]) | (with_reducible refine Run.gQ ?_ ?_ <;> intro hb <;> try simp only [hb])))
  · simp only [ferry_api_Code]
    (repeat' (first | (simp only [wp, extractV, exists_eq_left', if_true, if_false, ite_true, ite_false, reduceIte, Nat.reduceAdd, Nat.reduceLT, Nat.reduceLeDiff, Nat.reduceEqDiff, glob_lt hA, is_spec hA, sents_ok, Nat.reduceBEq, eq_err, h115 (.inr ⟨rfl, rfl⟩)]) | (with_reducible refine Run.gC ?_ ?_ <;> intro hb <;> try simp only [hb]) | (with_reducible refine Run.gG ?_ ?_ <;> intro hb <;> try simp only [hb]) | (with_reducible refine Run.gQ ?_ ?_ <;> intro hb <;> try simp only [hb])))
  · simp only [ferry_api_Code]
    (repeat' (first | (simp only [wp, extractV, exists_eq_left', if_true, if_false, ite_true, ite_false, reduceIte, Nat.reduceAdd, Nat.reduceLT, Nat.reduceLeDiff, Nat.reduceEqDiff, glob_lt hA, is_spec hA, sents_ok, Nat.reduceBEq, eq_err]) | (with_reducible refine Run.gC ?_ ?_ <;> intro hb <;> try simp only [hb]) | (with_reducible refine Run.gG ?_ ?_ <;> intro hb <;> try simp only [hb]) | (with_reducible refine Run.gQ ?_ ?_ <;> intro hb <;> try simp only [hb])))
theorem place_spec (hA : AErrs G) (n : Nat) {e : V} {c : Int} (h : Num e c) : callV (cfg G) (sem (cfg G) (n + 1)) 72 [e] = M.ret (.int .i64 (-1)) := by
  refine callV_pure0 rfl (by simp [h.closed]) rfl ?_
  rw [ferry_api_Place_eq]
  have ha : ∀ {l k o : Nat}, callV (cfg G) (sem (cfg G) n) 98 [e, .iface 163 (.ptr l k o)] = M.ret (.bool false) := by
    intro l k o
    rcases h with ⟨rfl, _⟩ | ⟨rfl, _⟩ | ⟨rfl, _⟩ | ⟨rfl, _⟩ | ⟨rfl, _⟩
    · exact as_spec0
    all_goals exact as_spec hA
  simp only [ferry_api_Place]
  (repeat' (first | (simp only [wp, extractV, exists_eq_left', if_true, if_false, ite_true, ite_false, reduceIte, Nat.reduceAdd, Nat.reduceLT, Nat.reduceLeDiff, Nat.reduceEqDiff, iface_ptr, ha]) | (with_reducible refine Run.gC ?_ ?_ <;> intro hb <;> try simp only [hb]) | (with_reducible refine Run.gG ?_ ?_ <;> intro hb <;> try simp only [hb]) | (with_reducible refine Run.gQ ?_ ?_ <;> intro hb <;> try simp only [hb])))
end Go.Fv.Tr
