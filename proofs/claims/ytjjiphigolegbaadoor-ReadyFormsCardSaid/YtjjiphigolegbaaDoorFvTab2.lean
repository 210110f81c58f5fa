/-
  When a table is in form: the document's counts say what the program's marks say. By an AI agent; no person has read it.
-/
import Derived.Test.YtjjiphigolegbaaDoorFvTab
set_option linter.unusedVariables false
set_option linter.unusedSimpArgs false
set_option linter.unusedSectionVars false
/-! When a table is in form: the document's counts say what the program's marks say. -/
namespace Go.Fv.Pl

/-- In order, told from the list's beginning on. -/
inductive Chn : List Tm → Prop where
  | nil : Chn []
  | snoc {l : List Tm} {t : Tm} : Chn l → (∀ a, l.getLast? = some a → before a t) → Chn (l ++ [t])
theorem Chn_snoc {l : List Tm} {t : Tm} : Chn (l ++ [t]) ↔ Chn l ∧ ∀ a, l.getLast? = some a → before a t := by
  constructor
  · intro h
    generalize e : l ++ [t] = m at h
    cases h with
    | nil => simp at e
    | snoc h1 h4 =>
      obtain ⟨rfl, rfl⟩ := snoc_inj e
      exact ⟨h1, h4⟩
  · rintro ⟨h1, h4⟩
    exact .snoc h1 h4
theorem Chn.take {l : List Tm} (h : Chn l) : ∀ i, Chn (l.take i) := by
  induction h with
  | nil => intro i; simp; exact .nil
  | snoc h1 h4 ih =>
    rename_i l t
    intro i
    by_cases hi : i ≤ l.length
    · rw [List.take_append_of_le_length hi]; exact ih i
    · rw [take_all (by simp; omega)]; exact .snoc h1 h4
theorem TsOk.chn {n : Int} {l : List Tm} (h : TsOk n l) : Chn l := by
  induction h with
  | nil => exact .nil
  | snoc h1 h2 h3 h4 ih => exact .snoc ih h4
theorem TsOk_of {n : Int} {l : List Tm} (h1 : Chn l) (h2 : ∀ t ∈ l, right n t) (h3 : (l.map Tm.proc).Nodup) : TsOk n l := by
  induction h1 with
  | nil => exact .nil
  | snoc g1 g4 ih =>
    rename_i l t
    rw [List.map_append, List.nodup_append] at h3
    exact .snoc (ih (fun t ht => h2 t (by simp [ht])) h3.1) (h2 t (by simp)) (fun hm => h3.2.2 _ hm t.proc (by simp) rfl) g4

def cnt (ts : List Tm) (i : Int) : Nat := (ts.map Tm.proc).count i
/-- One process, with what queue and timers say of it. -/
def RRow (t : Tab) (i : Int) (p : Pr) : Prop :=
  p.regs[0]? = some 0 ∧ (0 ≤ p.state ∧ p.state ≤ 3) ∧ (0 ≤ p.prio ∧ p.prio ≤ 255) ∧ (0 ≤ p.wait ∧ p.wait ≤ 4) ∧ (p.wait ≠ 0 ↔ p.state = 2) ∧ 0 ≤ p.obj ∧ (p.wait ≤ 1 → p.obj = 0) ∧
  cnt t.ts i ≤ 1 ∧ (cnt t.ts i = 1 → p.state = 2) ∧ (cnt t.ts i = 0 → p.wait ≠ 1) ∧ t.q.count i = if p.state = 1 then 1 else 0
instance (t : Tab) (i : Int) (p : Pr) : Decidable (RRow t i p) := inferInstanceAs (Decidable (_ ∧ _ ∧ _ ∧ _ ∧ _ ∧ _ ∧ (_ → _) ∧ _ ∧ (_ → _) ∧ (_ → _) ∧ _))
structure ROk (t : Tab) : Prop where
  few : t.ps.length ≤ 8 ∧ t.q.length ≤ 8 ∧ t.ts.length ≤ 8
  ps : ∀ (i : Nat) p, t.ps[i]? = some p → RRow t i p
  q : ∀ n ∈ t.q, 0 ≤ n ∧ n < t.ps.length
  ts : ∀ x ∈ t.ts, right t.ps.length x
  chn : Chn t.ts

theorem nodup_len : ∀ (n : Nat) (l : List Nat), l.Nodup → (∀ x ∈ l, x < n) → l.length ≤ n
  | 0, l, _, h => by
    cases l with
    | nil => simp
    | cons a l => exact absurd (h a (by simp)) (by omega)
  | n + 1, l, hn, h => by
    have ih := nodup_len n (l.erase n) (hn.erase n) fun x hx => by
      have hx' := (List.Nodup.mem_erase_iff hn).1 hx
      have := h x hx'.2
      have := hx'.1
      omega
    by_cases hm : n ∈ l
    · rw [List.length_erase_of_mem hm] at ih
      omega
    · rw [List.erase_of_not_mem hm] at ih
      omega
theorem nodup_lenI {n : Nat} {l : List Int} (hn : l.Nodup) (h : ∀ x ∈ l, 0 ≤ x ∧ x < n) : l.length ≤ n := by
  have := nodup_len n (l.map Int.toNat) (by
    rw [List.nodup_iff_pairwise_ne, List.pairwise_map]
    refine List.Pairwise.imp_of_mem ?_ (List.nodup_iff_pairwise_ne.1 hn)
    intro a b ha hb hne he
    have := h a ha
    have := h b hb
    omega) (fun x hx => by
    obtain ⟨a, ha, rfl⟩ := List.mem_map.1 hx
    have := h a ha
    omega)
  simpa using this
theorem count_one {l : List Int} (hn : l.Nodup) (i : Int) : l.count i = if i ∈ l then 1 else 0 := by
  have := List.nodup_iff_count.1 hn i
  by_cases h : i ∈ l
  · have := List.count_pos_iff.2 h
    rw [if_pos h]; omega
  · rw [if_neg h, List.count_eq_zero_of_not_mem h]
theorem nodup_of_count {l : List Int} {n : Nat} (h : ∀ x ∈ l, 0 ≤ x ∧ x < n) (hc : ∀ i : Nat, i < n → l.count (i : Int) ≤ 1) : l.Nodup := by
  rw [List.nodup_iff_count]
  intro a
  by_cases ha : a ∈ l
  · have := h a ha
    have e : a = (a.toNat : Int) := by omega
    rw [e]
    exact hc _ (by omega)
  · rw [List.count_eq_zero_of_not_mem ha]; omega
theorem isReady_iff {ps : List Pr} {i : Nat} {p : Pr} (h : ps[i]? = some p) : isReady ps (i : Nat) ↔ p.state = 1 := by
  have e : at? ps (i : Nat) = some p := by unfold at?; rw [if_pos (by omega)]; exact h
  unfold isReady
  rw [e]
  simp

theorem ROk_iff (t : Tab) : ROk t ↔ TabOk t := by
  constructor
  · intro h
    have nts : (t.ts.map Tm.proc).Nodup := nodup_of_count (n := t.ps.length) (fun x hx => by
      obtain ⟨y, hy, rfl⟩ := List.mem_map.1 hx
      have := h.ts y hy
      exact ⟨this.1, this.2.1⟩) fun i hi => (h.ps i _ (List.getElem?_eq_getElem hi)).2.2.2.2.2.2.2.1
    have nq : t.q.Nodup := nodup_of_count (n := t.ps.length) h.q fun i hi => by
      have := (h.ps i _ (List.getElem?_eq_getElem hi)).2.2.2.2.2.2.2.2.2.2
      split at this <;> omega
    refine ⟨h.few.1, TsOk_of h.chn h.ts nts, fun i p hp => ?_, fun n hn => ?_, nq, fun i hi hr => ?_⟩
    · obtain ⟨g1, g2, g3, g4, g5, g6, g7, g8, g9, g10, g11⟩ := h.ps i p hp
      refine ⟨⟨g1, g2, g3, g4, g5, g6, ?_⟩, fun ht => g9 ?_, fun ht => g10 ?_⟩
      · by_cases g : p.wait ≤ 1
        · exact .inl (g7 g)
        · exact .inr (by omega)
      · unfold cnt
        rw [count_one nts, if_pos (show ((i : Nat) : Int) ∈ t.ts.map Tm.proc from ht)]
      · unfold cnt
        rw [count_one nts, if_neg (show ¬ ((i : Nat) : Int) ∈ t.ts.map Tm.proc from ht)]
    · have hr := h.q n hn
      have e : n = (n.toNat : Int) := by omega
      have hp := List.getElem?_eq_getElem (l := t.ps) (i := n.toNat) (by omega)
      rw [e, isReady_iff hp]
      have := (h.ps _ _ hp).2.2.2.2.2.2.2.2.2.2
      rw [← e, count_one nq, if_pos hn] at this
      by_cases g : t.ps[n.toNat].state = 1
      · exact g
      · rw [if_neg g] at this; omega
    · have hp := List.getElem?_eq_getElem (l := t.ps) (i := i) hi
      rw [isReady_iff hp] at hr
      have := (h.ps _ _ hp).2.2.2.2.2.2.2.2.2.2
      rw [if_pos hr] at this
      exact List.count_pos_iff.1 (by omega)
  · intro h
    have nts := h.ts.nodup
    have lts : t.ts.length ≤ t.ps.length := by
      have := nodup_lenI (n := t.ps.length) nts fun x hx => by
        obtain ⟨y, hy, rfl⟩ := List.mem_map.1 hx
        have := h.ts.mem y hy
        exact ⟨this.1, this.2.1⟩
      simpa using this
    have lq : t.q.length ≤ t.ps.length := nodup_lenI h.q.2.1 fun x hx => (h.q.1 x hx).lt
    have := h.few
    refine ⟨⟨h.few, by omega, by omega⟩, fun i p hp => ?_, fun n hn => (h.q.1 n hn).lt, h.ts.mem, h.ts.chn⟩
    obtain ⟨⟨g1, g2, g3, g4, g5, g6, g7⟩, g8, g9⟩ := h.ps i p hp
    have hc := count_one nts (i : Nat)
    refine ⟨g1, g2, g3, g4, g5, g6, fun g => ?_, ?_, fun g => g8 ?_, fun g => g9 ?_, ?_⟩
    · rcases g7 with g7 | g7
      · exact g7
      · have := g4.1; omega
    · unfold cnt; rw [hc]; split <;> omega
    · unfold cnt at g; rw [hc] at g
      by_cases ht : ((i : Nat) : Int) ∈ t.ts.map Tm.proc
      · exact ht
      · rw [if_neg ht] at g; omega
    · unfold cnt at g; rw [hc] at g
      intro ht
      rw [if_pos (show ((i : Nat) : Int) ∈ t.ts.map Tm.proc from ht)] at g; omega
    · rw [count_one h.q.2.1]
      obtain ⟨hi, _⟩ := List.getElem?_eq_some_iff.1 hp
      have hr := isReady_iff (ps := t.ps) hp
      by_cases hm : ((i : Nat) : Int) ∈ t.q
      · rw [if_pos hm, if_pos (hr.1 (h.q.1 _ hm))]
      · rw [if_neg hm, if_neg fun e => hm (h.q.2.2 i hi (hr.2 e))]
theorem TabOk_iff (t : Tab) : TabOk t ↔ t.ps.length ≤ 8 ∧ TsOk t.ps.length t.ts ∧ (∀ i : Nat, (h : i < t.ps.length) → RowOk t.ts i t.ps[i]) ∧ QOk t.ps t.q :=
  ⟨fun h => ⟨h.few, h.ts, fun i hi => h.ps i _ (List.getElem?_eq_getElem hi), h.q⟩, fun ⟨a, b, c, d⟩ => ⟨a, b, fun i p hp => by
    obtain ⟨hi, e⟩ := List.getElem?_eq_some_iff.1 hp
    rw [← e]
    exact c i hi, d⟩⟩
instance (t : Tab) : Decidable (TabOk t) := decidable_of_iff _ (TabOk_iff t).symm
end Go.Fv.Pl
