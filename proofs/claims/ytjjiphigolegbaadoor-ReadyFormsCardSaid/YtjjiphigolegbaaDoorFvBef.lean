/-
  The orders that a region leaves open. By an AI agent; no person has read it.
-/
import Derived.Test.YtjjiphigolegbaaDoorFvRun
set_option linter.unusedVariables false
set_option linter.unusedSimpArgs false
set_option linter.unusedSectionVars false
/-! The orders that a region leaves open. -/
namespace Go.Fv
open Go

def befG (acc : Array Nat) (o : Oper) : Nat :=
  o.after.foldl (fun s e => if Region.binds .any e then s ||| 2 ^ e.on ||| acc.getD e.on 0 else s) 0
def befStep (acc : Array Nat) (o : Oper) : Array Nat := acc.push (befG acc o)

theorem befOf_eq (ops : Array Oper) : befOf ops = ops.toList.foldl befStep #[] := by
  unfold befOf
  rw [← Array.foldl_toList]
  rfl

theorem befStep_size : ∀ (l : List Oper) (acc : Array Nat), (l.foldl befStep acc).size = acc.size + l.length
  | [], acc => rfl
  | o :: l, acc => by
    rw [List.foldl_cons, befStep_size l]
    simp [befStep]
    omega

theorem befStep_low : ∀ (l : List Oper) (acc : Array Nat) (k : Nat), k < acc.size → (l.foldl befStep acc).getD k 0 = acc.getD k 0
  | [], acc, k, _ => rfl
  | o :: l, acc, k, h => by
    rw [List.foldl_cons, befStep_low l _ k (by simp [befStep]; omega)]
    simp only [befStep, Array.getD_eq_getD_getElem?]
    rw [Array.getElem?_push_lt h, Array.getElem?_eq_getElem h]

theorem testBit_fold (acc : Array Nat) (i : Nat) : ∀ (l : List Edge) (s : Nat), (l.foldl (fun s e => if Region.binds .any e then s ||| 2 ^ e.on ||| acc.getD e.on 0 else s) s).testBit i = true ↔
    s.testBit i = true ∨ ∃ e ∈ l, Region.binds .any e = true ∧ (e.on = i ∨ (acc.getD e.on 0).testBit i = true)
  | [], s => by simp
  | e :: l, s => by
    rw [List.foldl_cons, testBit_fold acc i l]
    by_cases hb : Region.binds .any e = true
    · rw [if_pos hb]
      simp only [Nat.testBit_or, Nat.testBit_two_pow, Bool.or_eq_true, decide_eq_true_eq, List.mem_cons]
      constructor
      · rintro (((h | h) | h) | ⟨e', h1, h2, h3⟩)
        · exact .inl h
        · exact .inr ⟨e, .inl rfl, hb, .inl h⟩
        · exact .inr ⟨e, .inl rfl, hb, .inr h⟩
        · exact .inr ⟨e', .inr h1, h2, h3⟩
      · rintro (h | ⟨e', rfl | h1, h2, h3⟩)
        · exact .inl (.inl (.inl h))
        · rcases h3 with h3 | h3
          · exact .inl (.inl (.inr h3))
          · exact .inl (.inr h3)
        · exact .inr ⟨e', h1, h2, h3⟩
    · rw [if_neg hb]
      simp only [List.mem_cons]
      constructor
      · rintro (h | ⟨e', h1, h2, h3⟩)
        · exact .inl h
        · exact .inr ⟨e', .inr h1, h2, h3⟩
      · rintro (h | ⟨e', rfl | h1, h2, h3⟩)
        · exact .inl h
        · exact absurd h2 hb
        · exact .inr ⟨e', h1, h2, h3⟩

/-- What 'orderOk' says. -/
structure Ord (ops : Array Oper) : Prop where
  ok : ∀ (j : Nat) o, ops[j]? = some o → okOp o.op = true
  edge : ∀ (j : Nat) o, ops[j]? = some o → ∀ e ∈ o.after.toList, Region.binds .any e = true → e.on < j
  clash : ∀ (i j : Nat) a b, i < j → ops[i]? = some a → ops[j]? = some b → clash ops a b = true → bef ops j i = true

theorem ord_of {ops : Array Oper} (h : orderOk ops = true) : Ord ops := by
  unfold orderOk at h
  rw [Bool.and_eq_true, List.all_eq_true, List.all_eq_true] at h
  have mem : ∀ (j : Nat) o, ops[j]? = some o → (o, j) ∈ ops.toList.zipIdx := fun j o hj => by
    rw [List.mem_zipIdx_iff_getElem?]
    simpa using hj
  refine ⟨fun j o hj => ?_, fun j o hj e he hb => ?_, fun i j a b hij ha hb hc => ?_⟩
  · have := h.1 _ (mem j o hj)
    rw [Bool.and_eq_true] at this
    exact this.1
  · have := h.1 _ (mem j o hj)
    rw [Bool.and_eq_true, List.all_eq_true] at this
    have := this.2 e he
    rw [hb] at this
    simpa using this
  · have := h.2 _ (mem j b hb)
    rw [List.all_eq_true] at this
    have := this _ (mem i a ha)
    simp only [hc, decide_eq_true hij, Bool.not_true, Bool.false_or] at this
    exact this

section
variable {ops : Array Oper} (od : Ord ops)
include od

theorem bef_iff {j : Nat} {o : Oper} (hj : ops[j]? = some o) (i : Nat) : bef ops j i = true ↔ ∃ e ∈ o.after.toList, Region.binds .any e = true ∧ (e.on = i ∨ bef ops e.on i = true) := by
  have hj' : ops.toList[j]? = some o := by simpa using hj
  have hlt : j < ops.toList.length := (List.getElem?_eq_some_iff.1 hj').1
  obtain ⟨l1, l2, hsplit, htl⟩ : ∃ l1 l2, ops.toList = l1 ++ o :: l2 ∧ l1.length = j := by
    refine ⟨ops.toList.take j, ops.toList.drop (j + 1), ?_, by rw [List.length_take]; omega⟩
    have h1 : ops.toList.drop j = o :: ops.toList.drop (j + 1) := by
      rw [List.drop_eq_getElem_cons hlt]
      congr 1
      exact (List.getElem?_eq_some_iff.1 hj').2
    rw [← h1, List.take_append_drop]
  have hA : (l1.foldl befStep #[]).size = j := by rw [befStep_size]; simp [htl]
  have hval : (befOf ops).getD j 0 = befG (l1.foldl befStep #[]) o := by
    rw [befOf_eq, hsplit, List.foldl_append, List.foldl_cons, befStep_low _ _ j (by simp only [befStep, Array.size_push]; omega)]
    simp only [befStep, Array.getD_eq_getD_getElem?]
    rw [Array.getElem?_push, if_pos hA.symm]
    rfl
  have hlow : ∀ k, k < j → (l1.foldl befStep #[]).getD k 0 = (befOf ops).getD k 0 := fun k hk => by
    rw [befOf_eq, hsplit, List.foldl_append]
    exact (befStep_low (o :: l2) (l1.foldl befStep #[]) k (by omega)).symm
  unfold bef
  rw [hval]
  unfold befG
  rw [← Array.foldl_toList, testBit_fold]
  simp only [Nat.zero_testBit, Bool.false_eq_true, false_or]
  constructor
  · rintro ⟨e, h1, h2, h3⟩
    exact ⟨e, h1, h2, h3.imp id (fun h => by rwa [hlow _ (od.edge j o hj e h1 h2)] at h)⟩
  · rintro ⟨e, h1, h2, h3⟩
    exact ⟨e, h1, h2, h3.imp id (fun h => by rwa [hlow _ (od.edge j o hj e h1 h2)])⟩

theorem bef_out {j : Nat} (hj : ops.size ≤ j) (i : Nat) : bef ops j i = false := by
  unfold bef
  have : (befOf ops).getD j 0 = 0 := by
    rw [Array.getD_eq_getD_getElem?, Array.getElem?_eq_none (by rw [befOf_eq, befStep_size]; simpa using hj)]
    rfl
  rw [this, Nat.zero_testBit]

theorem bef_lt : ∀ (j i : Nat), bef ops j i = true → i < j := by
  intro j
  induction j using Nat.strongRecOn with
  | _ j ih =>
    intro i h
    cases hj : ops[j]? with
    | none => rw [bef_out od (by simpa using hj)] at h; cases h
    | some o =>
      obtain ⟨e, h1, h2, h3⟩ := (bef_iff od hj i).1 h
      have hlt := od.edge j o hj e h1 h2
      rcases h3 with rfl | h3
      · exact hlt
      · exact Nat.lt_trans (ih _ hlt i h3) hlt

theorem bef_trans : ∀ (j i k : Nat), bef ops j i = true → bef ops i k = true → bef ops j k = true := by
  intro j
  induction j using Nat.strongRecOn with
  | _ j ih =>
    intro i k h hk
    cases hj : ops[j]? with
    | none => rw [bef_out od (by simpa using hj)] at h; cases h
    | some o =>
      obtain ⟨e, h1, h2, h3⟩ := (bef_iff od hj i).1 h
      have hlt := od.edge j o hj e h1 h2
      refine (bef_iff od hj k).2 ⟨e, h1, h2, .inr ?_⟩
      rcases h3 with rfl | h3
      · exact hk
      · exact ih _ hlt i k h3 hk
end
end Go.Fv
