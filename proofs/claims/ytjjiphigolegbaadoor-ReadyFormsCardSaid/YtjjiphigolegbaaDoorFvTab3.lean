/-
  Picking and yielding in turn. By an AI agent; no person has read it.
-/
import Derived.Test.YtjjiphigolegbaaDoorFvTab2
set_option linter.unusedVariables false
set_option linter.unusedSimpArgs false
set_option linter.unusedSectionVars false
/-! Picking and yielding in turn. -/
namespace Go.Fv.Pl

theorem rot {T : List Int} (hn : T.Nodup) {k : Nat} (hk : k < T.length) : yield (T.drop k ++ T.take k) T[k] = T.drop (k + 1) ++ T.take (k + 1) := by
  have e : T.drop k ++ T.take k = T[k] :: (T.drop (k + 1) ++ T.take k) := by
    rw [List.drop_eq_getElem_cons hk, List.cons_append]
  have hp : (T.drop k ++ T.take k).Nodup := by
    have : (T.drop k ++ T.take k).Perm T := List.perm_append_comm.trans (by rw [List.take_append_drop])
    exact this.nodup_iff.2 hn
  rw [e] at hp ⊢
  rw [yield_head hp, List.append_assoc, take_snoc hk]

/-- The table in which the process has gone to the tail. -/
def Tab.yield (t : Tab) (p : Int) : Tab := { t with q := Pl.yield t.q p }
theorem TabOk.yield {t : Tab} (h : TabOk t) {p : Int} (hp : isReady t.ps p) : TabOk (t.yield p) := ⟨h.few, h.ts, h.ps, yield_ok h.q hp⟩

/-- The queue behind k rounds of picking and yielding. -/
structure Turn (t : Tab) (m : Int) (T : List Int) (k : Nat) (u : Tab) : Prop where
  ps : u.ps = t.ps
  ok : TabOk u
  q : u.q.filter (fun n => prio t.ps n = m) = T.drop k ++ T.take k
  le : ∀ n ∈ u.q, prio t.ps n ≤ m
theorem Turn.pick {t u : Tab} {m : Int} {T : List Int} {k : Nat} (h : Turn t m T k u) (hk : k < T.length) {b : Int} (hb : u.q.head? = some b) : best (prio u.ps) b u.q = T[k] := by
  rw [h.ps]
  refine best_head (m := m) h.le (r := T.drop (k + 1) ++ T.take k) ?_ hb
  rw [h.q, List.drop_eq_getElem_cons hk, List.cons_append]
theorem Turn.mem {t u : Tab} {m : Int} {T : List Int} {k : Nat} (h : Turn t m T k u) (hk : k < T.length) : T[k] ∈ u.q ∧ prio t.ps T[k] = m := by
  have : T[k] ∈ u.q.filter (fun n => prio t.ps n = m) := by
    rw [h.q, List.drop_eq_getElem_cons hk]; exact List.mem_append_left _ (List.mem_cons_self ..)
  simpa using List.mem_filter.1 this
theorem Turn.next {t u : Tab} {m : Int} {T : List Int} {k : Nat} (h : Turn t m T k u) (hn : T.Nodup) (hk : k < T.length) : Turn t m T (k + 1) (u.yield T[k]) := by
  obtain ⟨h1, h2⟩ := h.mem hk
  refine ⟨h.ps, h.ok.yield (h.ok.q.1 _ h1), ?_, fun n hn => ?_⟩
  · show (Pl.yield u.q T[k]).filter _ = _
    rw [yield_filter (by simpa using h2), h.q, rot hn hk]
  · unfold Tab.yield Pl.yield at hn
    rcases List.mem_append.1 hn with g | g
    · exact h.le n (List.mem_filter.1 g).1
    · rw [List.mem_singleton] at g; subst g; omega
theorem Turn.wrap {t u : Tab} {m : Int} {T : List Int} (h : Turn t m T T.length u) : Turn t m T 0 u := ⟨h.ps, h.ok, by rw [h.q]; simp, h.le⟩
end Go.Fv.Pl
