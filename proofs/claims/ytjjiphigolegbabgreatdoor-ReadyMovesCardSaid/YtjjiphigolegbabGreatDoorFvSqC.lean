/-
  What the document's functions of the layer 9 answer: Fire. By an AI agent; no person has read it.
-/
import Derived.Test.YtjjiphigolegbabGreatDoorFvSqB
set_option linter.unusedVariables false
set_option linter.unusedSimpArgs false
set_option linter.unusedSectionVars false
/-! What the document's functions of the layer 9 answer: Fire. -/
namespace Go.Fv.Tr
open Go Go.Fv Go.Fv.Pl Go.Proofs
set_option linter.unusedSimpArgs false
set_option linter.unusedVariables false
variable {G : Nat → Option (List V)}

theorem split_ts {l : List Tm} (h : l.Pairwise before) (now : Int) : l = l.filter (·.due ≤ now) ++ l.filter (fun x => now < x.due) := by
  induction l with
  | nil => rfl
  | cons a l ih =>
    have ih := ih (List.pairwise_cons.1 h).2
    by_cases h1 : a.due ≤ now
    · rw [List.filter_cons_of_pos (by simpa using h1), List.filter_cons_of_neg (by simp; omega), List.cons_append, ← ih]
    · have all : ∀ b ∈ l, ¬ b.due ≤ now := fun b hb => by
        have := (List.pairwise_cons.1 h).1 b hb
        unfold before at this
        omega
      have e1 : (a :: l).filter (·.due ≤ now) = [] := List.filter_eq_nil_iff.2 fun b hb => by
        rcases List.mem_cons.1 hb with rfl | hb
        · simpa using h1
        · simpa using all b hb
      have e2 : (a :: l).filter (fun x => now < x.due) = a :: l := List.filter_eq_self.2 fun b hb => by
        rcases List.mem_cons.1 hb with rfl | hb
        · simp; omega
        · have := all b hb; simp; omega
      rw [e1, e2, List.nil_append]
/-- What is left of the timers behind the first so many that are due. -/
theorem drop_ts {n : Int} {ts : List Tm} (h : TsOk n ts) (now : Int) (i : Nat) : ts.filter (·.proc ∉ (dues ts now).take i) = (ts.filter (·.due ≤ now)).drop i ++ ts.filter (fun x => now < x.due) := by
  have hnd := h.nodup
  have hs := split_ts h.pairwise now
  have hP : ((ts.filter (·.due ≤ now)).map Tm.proc).Nodup := dues_nodup h now
  have hd : (dues ts now).take i = ((ts.filter (·.due ≤ now)).take i).map Tm.proc := by unfold dues; rw [List.map_take]
  have hS : ∀ a ∈ ts.filter (fun x => now < x.due), a.proc ∉ (dues ts now).take i := fun a ha hm => by
    rw [hd] at hm
    obtain ⟨b, hb, e⟩ := List.mem_map.1 hm
    have hb2 := List.mem_filter.1 (List.mem_of_mem_take hb)
    have ha2 := List.mem_filter.1 ha
    have := nodup_inj hnd hb2.1 ha2.1 e
    subst this
    have g1 := hb2.2
    have g2 := ha2.2
    simp only [decide_eq_true_eq] at g1 g2
    omega
  generalize (dues ts now).take i = D at hd hS ⊢
  conv => lhs; rw [hs]
  rw [List.filter_append, (List.filter_eq_self (l := ts.filter (fun x => now < x.due))).2 (fun a ha => by simpa using hS a ha)]
  congr 1
  generalize ts.filter (·.due ≤ now) = P at hP hd ⊢
  have e1 : (P.take i).filter (·.proc ∉ D) = [] := List.filter_eq_nil_iff.2 fun a ha => by
    rw [hd]
    simp only [decide_eq_true_eq, Decidable.not_not]
    exact List.mem_map.2 ⟨a, ha, rfl⟩
  have e2 : (P.drop i).filter (·.proc ∉ D) = P.drop i := List.filter_eq_self.2 fun a ha => by
    rw [hd]
    simp only [decide_eq_true_eq]
    intro hm
    obtain ⟨b, hb, e⟩ := List.mem_map.1 hm
    rw [← List.take_append_drop i P, List.map_append, List.nodup_append] at hP
    exact hP.2.2 _ (List.mem_map.2 ⟨b, hb, rfl⟩) _ (List.mem_map.2 ⟨a, ha, rfl⟩) e
  conv => lhs; rw [← List.take_append_drop i P]
  rw [List.filter_append, e1, e2, List.nil_append]

def RAns3 (t : Tab) (u : Tab) (l : List Int) (r : V) : Prop := (TabOk t ∧ ∃ a b c d, r = .tuple [.agg [a, b, c], d, i64 0] ∧ IsTab a b c u ∧ Sls d 1 (l.map intRow)) ∨ (¬ TabOk t ∧ r = .tuple [.agg [.nils, .nils, .nils], .nils, i64 9])
end Go.Fv.Tr
