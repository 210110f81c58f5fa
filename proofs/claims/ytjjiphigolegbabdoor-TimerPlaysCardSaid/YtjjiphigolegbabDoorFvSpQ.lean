/-
  The law TimerOne, run to its end. By an AI agent; no person has read it.
-/
import Derived.Test.YtjjiphigolegbabDoorFvSpP
set_option linter.unusedVariables false
set_option linter.unusedSimpArgs false
set_option linter.unusedSectionVars false
/-! The law TimerOne, run to its end. -/
namespace Go.Fv.Tr
open Go Go.Fv Go.Fv.Pl Go.Proofs
set_option linter.unusedSimpArgs false
set_option linter.unusedVariables false
variable {G : Nat → Option (List V)}

theorem dueOf_mem {ts : List Tm} (hn : (ts.map Tm.proc).Nodup) {t : Tm} (ht : t ∈ ts) : dueOf ts t.proc = t.due := by
  unfold dueOf
  cases hf : ts.find? (fun x => x.proc == t.proc) with
  | none => exact absurd (List.find?_eq_none.1 hf t ht) (by simp)
  | some x =>
    have h1 := List.mem_of_find?_eq_some hf
    have h2 := List.find?_some hf
    have := nodup_inj hn h1 ht (by simpa using h2)
    subst this; rfl
theorem dueOf_none {ts : List Tm} {p : Int} (h : ¬ timed ts p) : dueOf ts p = 0 := by
  unfold dueOf
  cases hf : ts.find? (fun x => x.proc == p) with
  | none => rfl
  | some x =>
    refine absurd (List.mem_map.2 ⟨x, List.mem_of_find?_eq_some hf, ?_⟩) h
    simpa using List.find?_some hf
theorem timed_congr {a b : List Tm} {q : Int} (h : ∀ t : Tm, t.proc = q → (t ∈ a ↔ t ∈ b)) : timed a q ↔ timed b q :=
  ⟨fun g => by obtain ⟨t, ht, e⟩ := List.mem_map.1 g; exact List.mem_map.2 ⟨t, (h t e).1 ht, e⟩, fun g => by obtain ⟨t, ht, e⟩ := List.mem_map.1 g; exact List.mem_map.2 ⟨t, (h t e).2 ht, e⟩⟩
theorem dueOf_congr {a b : List Tm} {q : Int} (ha : (a.map Tm.proc).Nodup) (hb : (b.map Tm.proc).Nodup) (h : ∀ t : Tm, t.proc = q → (t ∈ a ↔ t ∈ b)) : dueOf a q = dueOf b q := by
  by_cases ht : timed a q
  · obtain ⟨t, h1, e⟩ := List.mem_map.1 ht
    rw [← e, dueOf_mem ha h1, dueOf_mem hb ((h t e).1 h1)]
  · rw [dueOf_none ht, dueOf_none fun g => ht ((timed_congr h).2 g)]
theorem mem_wo {ts : List Tm} {p : Int} {t : Tm} : t ∈ wo ts p ↔ t ∈ ts ∧ t.proc ≠ p := by simp [wo]
theorem wo_ok {n : Int} {ts : List Tm} (h : TsOk n ts) (p : Int) : TsOk n (wo ts p) := h.filter _
theorem setT_ok {n : Int} {ts : List Tm} (h : TsOk n ts) {p d : Int} (hr : right n ⟨p, d⟩) : TsOk n (setT ts p d) := by
  refine isort_ok (fun t ht => ?_) ?_
  · rcases List.mem_append.1 ht with g | g
    · exact h.mem t (mem_wo.1 g).1
    · rw [List.mem_singleton] at g; subst g; exact hr
  · rw [List.map_append, List.nodup_append]
    refine ⟨(wo_ok h p).nodup, by simp, fun a ha b hb e => ?_⟩
    obtain ⟨t, ht, rfl⟩ := List.mem_map.1 ha
    simp only [List.map_cons, List.map_nil, List.mem_singleton] at hb
    exact (mem_wo.1 ht).2 (e.trans hb)
theorem mem_setT {ts : List Tm} {p d : Int} {t : Tm} : t ∈ setT ts p d ↔ (t ∈ ts ∧ t.proc ≠ p) ∨ t = ⟨p, d⟩ := by
  unfold setT
  rw [isort_mem, List.mem_append, List.mem_singleton, mem_wo]
theorem wo_setT {n : Int} {ts : List Tm} (h : TsOk n ts) {p d : Int} (hr : right n ⟨p, d⟩) : wo (setT ts p d) p = wo ts p := by
  refine sorted_eq (wo_ok (setT_ok h hr) p).pairwise (wo_ok h p).pairwise ?_
  have : (wo (setT ts p d) p).Perm (wo (wo ts p ++ [⟨p, d⟩]) p) := (isort_perm _).filter _
  refine this.trans ?_
  have e : wo (wo ts p ++ [⟨p, d⟩]) p = wo ts p := by
    unfold wo
    rw [List.filter_append, List.filter_filter, List.filter_cons_of_neg (by simp), List.filter_nil, List.append_nil]
    exact List.filter_congr fun a _ => by simp
  rw [e]
theorem timed_setT {ts : List Tm} {p d : Int} : timed (setT ts p d) p := List.mem_map.2 ⟨⟨p, d⟩, mem_setT.2 (.inr rfl), rfl⟩
theorem not_timed_wo {ts : List Tm} {p : Int} : ¬ timed (wo ts p) p := fun h => by
  obtain ⟨t, ht, e⟩ := List.mem_map.1 h
  exact (mem_wo.1 ht).2 e

theorem set_eq (hG : TErrs G) (n : Nat) {x : V} {ts : List Tm} (hx : Sls x 2 (ts.map tmRow)) (hok : TsOk 8 ts) {p d : Int} (hr : right 8 ⟨p, d⟩) :
    ∃ y, callV (cfg G) (sem (cfg G) (n + 7)) 22 [x, .int .i64 p, .int .i64 d] = M.ret (.tuple [y, .nili]) ∧ Sls y 2 ((setT ts p d).map tmRow) := by
  have h8 := ts_len8 hok
  obtain ⟨r, e, h⟩ := (set_spec hG.s n hx (by unfold big; omega) p d).eq rfl (by simp [hx.closedV, cI])
  rcases h with ⟨_, _, y, rfl, h1⟩ | ⟨_, h, _⟩ | ⟨h, _⟩
  · exact ⟨y, e, h1⟩
  · exact absurd hr h
  · exact absurd hok h
theorem drop_eq (hG : TErrs G) (n : Nat) {x : V} {ts : List Tm} (hx : Sls x 2 (ts.map tmRow)) (hok : TsOk 8 ts) (p : Int) :
    ∃ y, callV (cfg G) (sem (cfg G) (n + 5)) 23 [x, .int .i64 p] = M.ret (.tuple [y, .bool (decide (timed ts p)), .nili]) ∧ Sls y 2 ((wo ts p).map tmRow) := by
  have h8 := ts_len8 hok
  obtain ⟨r, e, h⟩ := (drop_spec hG n hx (by unfold big; omega) p).eq rfl (by simp [hx.closedV, cI])
  rcases h with ⟨_, y, rfl, h1⟩ | ⟨h, _⟩
  · exact ⟨y, e, h1⟩
  · exact absurd hok h
theorem check_eq (hG : TErrs G) (n : Nat) {x : V} {ts : List Tm} (hx : Sls x 2 (ts.map tmRow)) (hok : TsOk 8 ts) : callV (cfg G) (sem (cfg G) (n + 5)) 87 [x, .int .i64 8] = M.ret .nili := by
  have h8 := ts_len8 hok
  rw [check8 hG n hx (by unfold big; omega)]
  show M.ret (orNil _ _) = _
  rw [orNil, if_pos hok]
theorem find_eq (n : Nat) {x : V} {ts : List Tm} (hx : Sls x 2 (ts.map tmRow)) (hok : TsOk 8 ts) (p : Int) : callV (cfg G) (sem (cfg G) (n + 1)) 88 [x, .int .i64 p] = M.ret (.tuple [.int .i64 (dueOf ts p), .bool (decide (timed ts p))]) :=
  find_spec n hx (by have := ts_len8 hok; unfold big; omega) p

end Go.Fv.Tr
