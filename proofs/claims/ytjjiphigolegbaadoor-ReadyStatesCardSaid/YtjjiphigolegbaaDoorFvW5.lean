/-
  The plain data of the layers 8 and 9: timers, processes, tables; what is in form; who is picked. When a table is in form: the document's counts say what the program's marks say. Picking and yielding in turn. Looking up a process. Waking, one or many; firing. By an AI agent; no person has read it.
-/
set_option linter.unusedVariables false
set_option linter.unusedSimpArgs false
set_option linter.unusedSectionVars false
/-! The plain data of the layers 8 and 9: timers, processes, tables; what is in form; who is picked. -/
namespace Go.Fv.Pl

structure Tm where
  proc : Int
  due : Int
  deriving DecidableEq
structure Pr where
  regs : List Int
  pc : Int
  state : Int
  prio : Int
  wait : Int
  obj : Int
  deriving DecidableEq
structure Tab where
  ps : List Pr
  q : List Int
  ts : List Tm
  deriving DecidableEq

/-! ### Lists by their beginnings -/
section
variable {α : Type}
theorem take_snoc {l : List α} {i : Nat} (h : i < l.length) : l.take (i + 1) = l.take i ++ [l[i]] := by
  induction l generalizing i with
  | nil => simp at h
  | cons a l ih =>
    cases i with
    | zero => rfl
    | succ i => simp only [List.take_succ_cons, List.getElem_cons_succ, List.cons_append, ih (by simpa using h)]
theorem take_all {l : List α} {i : Nat} (h : l.length ≤ i) : l.take i = l := List.take_of_length_le h
theorem last_take {l : List α} {i : Nat} (h : i < l.length) : (l.take (i + 1)).getLast? = some l[i] := by
  rw [take_snoc h, List.getLast?_append]; simp
end

/-! ### Timers -/
def before (a b : Tm) : Prop := a.due < b.due ∨ a.due = b.due ∧ a.proc < b.proc
instance (a b : Tm) : Decidable (before a b) := inferInstanceAs (Decidable (_ ∨ _ ∧ _))
def right (n : Int) (t : Tm) : Prop := 0 ≤ t.proc ∧ t.proc < n ∧ 0 ≤ t.due ∧ t.due ≤ 1010000
instance (n : Int) (t : Tm) : Decidable (right n t) := inferInstanceAs (Decidable (_ ∧ _ ∧ _ ∧ _))
/-- The list, told from its beginning on: each timer is behind the last of those ahead of it. -/
inductive TsOk (n : Int) : List Tm → Prop where
  | nil : TsOk n []
  | snoc {l : List Tm} {t : Tm} : TsOk n l → right n t → t.proc ∉ l.map Tm.proc → (∀ a, l.getLast? = some a → before a t) → TsOk n (l ++ [t])

theorem snoc_inj {α : Type} {l l' : List α} {a b : α} (h : l ++ [a] = l' ++ [b]) : l = l' ∧ a = b := by
  have := List.append_inj' h rfl
  exact ⟨this.1, by simpa using this.2⟩
theorem TsOk_snoc {n : Int} {l : List Tm} {t : Tm} : TsOk n (l ++ [t]) ↔ TsOk n l ∧ right n t ∧ t.proc ∉ l.map Tm.proc ∧ ∀ a, l.getLast? = some a → before a t := by
  constructor
  · intro h
    generalize e : l ++ [t] = m at h
    cases h with
    | nil => simp at e
    | snoc h1 h2 h3 h4 =>
      obtain ⟨rfl, rfl⟩ := snoc_inj e
      exact ⟨h1, h2, h3, h4⟩
  · rintro ⟨h1, h2, h3, h4⟩
    exact .snoc h1 h2 h3 h4
theorem TsOk.take {n : Int} {l : List Tm} (h : TsOk n l) : ∀ i, TsOk n (l.take i) := by
  induction h with
  | nil => intro i; simp; exact .nil
  | snoc h1 h2 h3 h4 ih =>
    rename_i l t
    intro i
    by_cases hi : i ≤ l.length
    · rw [List.take_append_of_le_length hi]; exact ih i
    · rw [take_all (by simp; omega)]; exact .snoc h1 h2 h3 h4
theorem TsOk.mem {n : Int} {l : List Tm} (h : TsOk n l) : ∀ t ∈ l, right n t := by
  induction h with
  | nil => intro t h; simp at h
  | snoc h1 h2 h3 h4 ih =>
    intro t ht
    rcases List.mem_append.1 ht with h | h
    · exact ih t h
    · rw [List.mem_singleton] at h; subst h; exact h2
theorem TsOk.nodup {n : Int} {l : List Tm} (h : TsOk n l) : (l.map Tm.proc).Nodup := by
  induction h with
  | nil => exact List.nodup_nil
  | snoc h1 h2 h3 h4 ih =>
    rename_i l t
    rw [List.map_append, List.nodup_append]
    refine ⟨ih, by simp, fun a ha b hb => ?_⟩
    simp at hb
    subst hb
    exact fun e => h3 (e ▸ ha)
theorem before.trans {a b c : Tm} (h : before a b) (h' : before b c) : before a c := by
  unfold before at *
  omega
theorem getLast?_mem {α : Type} {l : List α} {a : α} (h : l.getLast? = some a) : a ∈ l := List.mem_of_getLast? h
theorem TsOk.pairwise {n : Int} {l : List Tm} (h : TsOk n l) : l.Pairwise before := by
  induction h with
  | nil => exact .nil
  | snoc h1 h2 h3 h4 ih =>
    rename_i l t
    rw [List.pairwise_append]
    refine ⟨ih, by simp, fun a ha b hb => ?_⟩
    rw [List.mem_singleton] at hb
    subst hb
    rcases List.eq_nil_or_concat l with rfl | ⟨l', z, e⟩
    · simp at ha
    · rw [List.concat_eq_append] at e
      subst e
      have hz := h4 z (by simp)
      rcases List.mem_append.1 ha with h | h
      · exact ((List.pairwise_append.1 ih).2.2 a h z (by simp)).trans hz
      · rw [List.mem_singleton] at h; subst h; exact hz
theorem TsOk_iff {n : Int} {l : List Tm} : TsOk n l ↔ (∀ t ∈ l, right n t) ∧ (l.map Tm.proc).Nodup ∧ l.Pairwise before := by
  refine ⟨fun h => ⟨h.mem, h.nodup, h.pairwise⟩, fun ⟨h1, h2, h3⟩ => ?_⟩
  have main : ∀ i, i ≤ l.length → TsOk n (l.take i) := by
    intro i
    induction i with
    | zero => intro _; simp; exact .nil
    | succ i ih =>
      intro hi
      rw [take_snoc (by omega)]
      refine .snoc (ih (by omega)) (h1 _ (List.getElem_mem _)) ?_ fun a ha => ?_
      · have : (l.map Tm.proc).take (i + 1) = (l.take i).map Tm.proc ++ [l[i].proc] := by
          rw [take_snoc (by simp; omega)]; simp
        have hn : ((l.map Tm.proc).take (i + 1)).Nodup := List.Nodup.sublist (List.take_sublist _ _) h2
        rw [this, List.nodup_append] at hn
        exact fun hm => hn.2.2 _ hm _ (by simp) rfl
      · have : (l.take (i + 1)).Pairwise before := List.Pairwise.sublist (List.take_sublist _ _) h3
        rw [take_snoc (by omega), List.pairwise_append] at this
        exact this.2.2 a (List.mem_of_getLast? ha) _ (by simp)
  have := main l.length (Nat.le_refl _)
  rwa [take_all (Nat.le_refl _)] at this
instance (n : Int) (l : List Tm) : Decidable (TsOk n l) := decidable_of_iff _ TsOk_iff.symm

def timed (ts : List Tm) (i : Int) : Prop := i ∈ ts.map Tm.proc
instance (ts : List Tm) (i : Int) : Decidable (timed ts i) := inferInstanceAs (Decidable (_ ∈ _))
/-- When the process's first timer is due. -/
def dueOf (ts : List Tm) (p : Int) : Int := ((ts.find? fun t => t.proc == p).map Tm.due).getD 0

/-! ### Processes -/
def PrOk (p : Pr) : Prop := p.regs[0]? = some 0 ∧ (0 ≤ p.state ∧ p.state ≤ 3) ∧ (0 ≤ p.prio ∧ p.prio ≤ 255) ∧ (0 ≤ p.wait ∧ p.wait ≤ 4) ∧ (p.wait ≠ 0 ↔ p.state = 2) ∧ 0 ≤ p.obj ∧ (p.obj = 0 ∨ p.wait ≠ 0 ∧ p.wait ≠ 1)
instance (p : Pr) : Decidable (PrOk p) := inferInstanceAs (Decidable (_ ∧ _ ∧ _ ∧ _ ∧ _ ∧ _ ∧ _))
/-- A process at its place, with its timer. -/
def RowOk (ts : List Tm) (i : Int) (p : Pr) : Prop := PrOk p ∧ (timed ts i → p.state = 2) ∧ (¬ timed ts i → p.wait ≠ 1)
instance (ts : List Tm) (i : Int) (p : Pr) : Decidable (RowOk ts i p) := inferInstanceAs (Decidable (_ ∧ (_ → _) ∧ (¬ _ → _)))

/-- Process n, where n is one. -/
def at? (ps : List Pr) (n : Int) : Option Pr := if 0 ≤ n then ps[n.toNat]? else none
def isReady (ps : List Pr) (n : Int) : Prop := (at? ps n).map Pr.state = some 1
instance (ps : List Pr) (n : Int) : Decidable (isReady ps n) := inferInstanceAs (Decidable (_ = _))
def QOk (ps : List Pr) (q : List Int) : Prop := (∀ n ∈ q, isReady ps n) ∧ q.Nodup ∧ ∀ i, i < ps.length → isReady ps (i : Nat) → ((i : Nat) : Int) ∈ q
instance (ps : List Pr) (q : List Int) : Decidable (QOk ps q) := inferInstanceAs (Decidable (_ ∧ _ ∧ ∀ i, i < _ → _))
structure TabOk (t : Tab) : Prop where
  few : t.ps.length ≤ 8
  ts : TsOk t.ps.length t.ts
  ps : ∀ (i : Nat) p, t.ps[i]? = some p → RowOk t.ts i p
  q : QOk t.ps t.q

def prio (ps : List Pr) (n : Int) : Int := ((at? ps n).map Pr.prio).getD 0
/-- The greatest, the farthest ahead. -/
def best (f : Int → Int) (b : Int) (l : List Int) : Int := l.foldl (fun b n => if f n > f b then n else b) b
def yield (q : List Int) (p : Int) : List Int := q.filter (· ≠ p) ++ [p]

theorem at?_lt {ps : List Pr} {n : Int} {p : Pr} (h : at? ps n = some p) : 0 ≤ n ∧ n < ps.length := by
  unfold at? at h
  split at h
  · obtain ⟨h1, _⟩ := List.getElem?_eq_some_iff.1 h
    omega
  · cases h
theorem isReady.lt {ps : List Pr} {n : Int} (h : isReady ps n) : 0 ≤ n ∧ n < ps.length := by
  unfold isReady at h
  cases e : at? ps n with
  | none => rw [e] at h; cases h
  | some p => exact at?_lt e

theorem best_ge (f : Int → Int) : ∀ (l : List Int) (b : Int), f b ≤ f (best f b l) ∧ ∀ n ∈ l, f n ≤ f (best f b l)
  | [], b => ⟨Int.le_refl _, fun n h => by simp at h⟩
  | a :: l, b => by
    have ih := best_ge f l (if f a > f b then a else b)
    have e : best f b (a :: l) = best f (if f a > f b then a else b) l := rfl
    rw [e]
    by_cases h : f a > f b
    · rw [if_pos h] at ih ⊢
      refine ⟨by omega, fun n hn => ?_⟩
      rcases List.mem_cons.1 hn with rfl | hn
      · exact ih.1
      · exact ih.2 n hn
    · rw [if_neg h] at ih ⊢
      refine ⟨ih.1, fun n hn => ?_⟩
      rcases List.mem_cons.1 hn with rfl | hn
      · omega
      · exact ih.2 n hn
theorem best_mem (f : Int → Int) : ∀ (l : List Int) (b : Int), best f b l = b ∨ best f b l ∈ l
  | [], b => .inl rfl
  | a :: l, b => by
    have e : best f b (a :: l) = best f (if f a > f b then a else b) l := rfl
    rw [e]
    rcases best_mem f l (if f a > f b then a else b) with h | h
    · rw [h]
      by_cases g : f a > f b
      · rw [if_pos g]; exact .inr (by simp)
      · rw [if_neg g]; exact .inl rfl
    · exact .inr (List.mem_cons_of_mem _ h)
/-- It's the first of those with the greatest. -/
theorem best_first (f : Int → Int) (m : Int) : ∀ (l : List Int) (b : Int), f b ≤ m → (∀ n ∈ l, f n ≤ m) →
    (f b = m → best f b l = b) ∧ (f b < m → ∀ x r, l.filter (f · = m) = x :: r → best f b l = x)
  | [], b, _, _ => ⟨fun _ => rfl, fun _ x r h => by simp at h⟩
  | a :: l, b, hb, hl => by
    have e : best f b (a :: l) = best f (if f a > f b then a else b) l := rfl
    have ha := hl a (by simp)
    rw [e]
    by_cases h : f a > f b
    · rw [if_pos h]
      have ih := best_first f m l a ha fun n hn => hl n (List.mem_cons_of_mem _ hn)
      refine ⟨fun g => by omega, fun g x r hx => ?_⟩
      by_cases h2 : f a = m
      · rw [List.filter_cons_of_pos (by simpa using h2)] at hx
        rw [ih.1 h2]
        exact (List.cons.inj hx).1
      · rw [List.filter_cons_of_neg (by simpa using h2)] at hx
        exact ih.2 (by omega) x r hx
    · rw [if_neg h]
      have ih := best_first f m l b hb fun n hn => hl n (List.mem_cons_of_mem _ hn)
      refine ⟨ih.1, fun g x r hx => ?_⟩
      rw [List.filter_cons_of_neg (by simp; omega)] at hx
      exact ih.2 g x r hx
theorem best_head {f : Int → Int} {m b : Int} {l : List Int} (hl : ∀ n ∈ l, f n ≤ m) {x : Int} {r : List Int} (hx : l.filter (f · = m) = x :: r) (hb : l.head? = some b) : best f b l = x := by
  cases l with
  | nil => simp at hb
  | cons a l =>
    simp at hb
    subst hb
    have h := best_first f m (a :: l) a (hl a (by simp)) hl
    by_cases g : f a = m
    · rw [h.1 g]
      rw [List.filter_cons_of_pos (by simpa using g)] at hx
      exact (List.cons.inj hx).1
    · exact h.2 (by have := hl a (by simp); omega) x r hx

theorem yield_filter {f : Int → Bool} {q : List Int} {p : Int} (hp : f p = true) : (yield q p).filter f = yield (q.filter f) p := by
  unfold yield
  rw [List.filter_append, List.filter_filter, List.filter_filter]
  congr 1
  · congr 1; funext x; rw [Bool.and_comm]
  · rw [List.filter_cons_of_pos hp]; rfl
theorem yield_head {p : Int} {r : List Int} (h : (p :: r).Nodup) : yield (p :: r) p = r ++ [p] := by
  unfold yield
  rw [List.filter_cons_of_neg (by simp)]
  congr 1
  refine List.filter_eq_self.2 fun a ha => ?_
  have := (List.nodup_cons.1 h).1
  simp
  rintro rfl
  exact this ha
theorem yield_ok {ps : List Pr} {q : List Int} {p : Int} (h : QOk ps q) (hp : isReady ps p) : QOk ps (yield q p) := by
  refine ⟨fun n hn => ?_, ?_, fun i hi hr => ?_⟩
  · unfold yield at hn
    rcases List.mem_append.1 hn with h' | h'
    · exact h.1 n (List.mem_filter.1 h').1
    · rw [List.mem_singleton] at h'; subst h'; exact hp
  · unfold yield
    rw [List.nodup_append]
    refine ⟨List.Nodup.sublist List.filter_sublist h.2.1, by simp, fun a ha b hb => ?_⟩
    have := (List.mem_filter.1 ha).2
    rw [List.mem_singleton] at hb
    subst hb
    simpa using this
  · unfold yield
    by_cases e : ((i : Nat) : Int) = p
    · exact List.mem_append.2 (.inr (by simp [e]))
    · exact List.mem_append.2 (.inl (List.mem_filter.2 ⟨h.2.2 i hi hr, by simpa using e⟩))
end Go.Fv.Pl

/-! When a table is in form: the document's counts say what the program's marks say. -/
namespace Go.Fv.Pl

/-- In order, told from the list's beginning on. -/
inductive Chn : List Tm → Prop where
  | nil : Chn []
  | snoc {l : List Tm} {t : Tm} : Chn l → (∀ a, l.getLast? = some a → before a t) → Chn (l ++ [t])
theorem Chn_snoc {l : List Tm} {t : Tm} : Chn (l ++ [t]) ↔ Chn l ∧ ∀ a, l.getLast? = some a → before a t := by
  constructor
  · intro h
    generalize e : l ++ [t] = m at h
    cases h with
    | nil => simp at e
    | snoc h1 h4 =>
      obtain ⟨rfl, rfl⟩ := snoc_inj e
      exact ⟨h1, h4⟩
  · rintro ⟨h1, h4⟩
    exact .snoc h1 h4
theorem Chn.take {l : List Tm} (h : Chn l) : ∀ i, Chn (l.take i) := by
  induction h with
  | nil => intro i; simp; exact .nil
  | snoc h1 h4 ih =>
    rename_i l t
    intro i
    by_cases hi : i ≤ l.length
    · rw [List.take_append_of_le_length hi]; exact ih i
    · rw [take_all (by simp; omega)]; exact .snoc h1 h4
theorem TsOk.chn {n : Int} {l : List Tm} (h : TsOk n l) : Chn l := by
  induction h with
  | nil => exact .nil
  | snoc h1 h2 h3 h4 ih => exact .snoc ih h4
theorem TsOk_of {n : Int} {l : List Tm} (h1 : Chn l) (h2 : ∀ t ∈ l, right n t) (h3 : (l.map Tm.proc).Nodup) : TsOk n l := by
  induction h1 with
  | nil => exact .nil
  | snoc g1 g4 ih =>
    rename_i l t
    rw [List.map_append, List.nodup_append] at h3
    exact .snoc (ih (fun t ht => h2 t (by simp [ht])) h3.1) (h2 t (by simp)) (fun hm => h3.2.2 _ hm t.proc (by simp) rfl) g4

def cnt (ts : List Tm) (i : Int) : Nat := (ts.map Tm.proc).count i
/-- One process, with what queue and timers say of it. -/
def RRow (t : Tab) (i : Int) (p : Pr) : Prop :=
  p.regs[0]? = some 0 ∧ (0 ≤ p.state ∧ p.state ≤ 3) ∧ (0 ≤ p.prio ∧ p.prio ≤ 255) ∧ (0 ≤ p.wait ∧ p.wait ≤ 4) ∧ (p.wait ≠ 0 ↔ p.state = 2) ∧ 0 ≤ p.obj ∧ (p.wait ≤ 1 → p.obj = 0) ∧
  cnt t.ts i ≤ 1 ∧ (cnt t.ts i = 1 → p.state = 2) ∧ (cnt t.ts i = 0 → p.wait ≠ 1) ∧ t.q.count i = if p.state = 1 then 1 else 0
instance (t : Tab) (i : Int) (p : Pr) : Decidable (RRow t i p) := inferInstanceAs (Decidable (_ ∧ _ ∧ _ ∧ _ ∧ _ ∧ _ ∧ (_ → _) ∧ _ ∧ (_ → _) ∧ (_ → _) ∧ _))
structure ROk (t : Tab) : Prop where
  few : t.ps.length ≤ 8 ∧ t.q.length ≤ 8 ∧ t.ts.length ≤ 8
  ps : ∀ (i : Nat) p, t.ps[i]? = some p → RRow t i p
  q : ∀ n ∈ t.q, 0 ≤ n ∧ n < t.ps.length
  ts : ∀ x ∈ t.ts, right t.ps.length x
  chn : Chn t.ts

theorem nodup_len : ∀ (n : Nat) (l : List Nat), l.Nodup → (∀ x ∈ l, x < n) → l.length ≤ n
  | 0, l, _, h => by
    cases l with
    | nil => simp
    | cons a l => exact absurd (h a (by simp)) (by omega)
  | n + 1, l, hn, h => by
    have ih := nodup_len n (l.erase n) (hn.erase n) fun x hx => by
      have hx' := (List.Nodup.mem_erase_iff hn).1 hx
      have := h x hx'.2
      have := hx'.1
      omega
    by_cases hm : n ∈ l
    · rw [List.length_erase_of_mem hm] at ih
      omega
    · rw [List.erase_of_not_mem hm] at ih
      omega
theorem nodup_lenI {n : Nat} {l : List Int} (hn : l.Nodup) (h : ∀ x ∈ l, 0 ≤ x ∧ x < n) : l.length ≤ n := by
  have := nodup_len n (l.map Int.toNat) (by
    rw [List.nodup_iff_pairwise_ne, List.pairwise_map]
    refine List.Pairwise.imp_of_mem ?_ (List.nodup_iff_pairwise_ne.1 hn)
    intro a b ha hb hne he
    have := h a ha
    have := h b hb
    omega) (fun x hx => by
    obtain ⟨a, ha, rfl⟩ := List.mem_map.1 hx
    have := h a ha
    omega)
  simpa using this
theorem count_one {l : List Int} (hn : l.Nodup) (i : Int) : l.count i = if i ∈ l then 1 else 0 := by
  have := List.nodup_iff_count.1 hn i
  by_cases h : i ∈ l
  · have := List.count_pos_iff.2 h
    rw [if_pos h]; omega
  · rw [if_neg h, List.count_eq_zero_of_not_mem h]
theorem nodup_of_count {l : List Int} {n : Nat} (h : ∀ x ∈ l, 0 ≤ x ∧ x < n) (hc : ∀ i : Nat, i < n → l.count (i : Int) ≤ 1) : l.Nodup := by
  rw [List.nodup_iff_count]
  intro a
  by_cases ha : a ∈ l
  · have := h a ha
    have e : a = (a.toNat : Int) := by omega
    rw [e]
    exact hc _ (by omega)
  · rw [List.count_eq_zero_of_not_mem ha]; omega
theorem isReady_iff {ps : List Pr} {i : Nat} {p : Pr} (h : ps[i]? = some p) : isReady ps (i : Nat) ↔ p.state = 1 := by
  have e : at? ps (i : Nat) = some p := by unfold at?; rw [if_pos (by omega)]; exact h
  unfold isReady
  rw [e]
  simp

theorem ROk_iff (t : Tab) : ROk t ↔ TabOk t := by
  constructor
  · intro h
    have nts : (t.ts.map Tm.proc).Nodup := nodup_of_count (n := t.ps.length) (fun x hx => by
      obtain ⟨y, hy, rfl⟩ := List.mem_map.1 hx
      have := h.ts y hy
      exact ⟨this.1, this.2.1⟩) fun i hi => (h.ps i _ (List.getElem?_eq_getElem hi)).2.2.2.2.2.2.2.1
    have nq : t.q.Nodup := nodup_of_count (n := t.ps.length) h.q fun i hi => by
      have := (h.ps i _ (List.getElem?_eq_getElem hi)).2.2.2.2.2.2.2.2.2.2
      split at this <;> omega
    refine ⟨h.few.1, TsOk_of h.chn h.ts nts, fun i p hp => ?_, fun n hn => ?_, nq, fun i hi hr => ?_⟩
    · obtain ⟨g1, g2, g3, g4, g5, g6, g7, g8, g9, g10, g11⟩ := h.ps i p hp
      refine ⟨⟨g1, g2, g3, g4, g5, g6, ?_⟩, fun ht => g9 ?_, fun ht => g10 ?_⟩
      · by_cases g : p.wait ≤ 1
        · exact .inl (g7 g)
        · exact .inr (by omega)
      · unfold cnt
        rw [count_one nts, if_pos (show ((i : Nat) : Int) ∈ t.ts.map Tm.proc from ht)]
      · unfold cnt
        rw [count_one nts, if_neg (show ¬ ((i : Nat) : Int) ∈ t.ts.map Tm.proc from ht)]
    · have hr := h.q n hn
      have e : n = (n.toNat : Int) := by omega
      have hp := List.getElem?_eq_getElem (l := t.ps) (i := n.toNat) (by omega)
      rw [e, isReady_iff hp]
      have := (h.ps _ _ hp).2.2.2.2.2.2.2.2.2.2
      rw [← e, count_one nq, if_pos hn] at this
      by_cases g : t.ps[n.toNat].state = 1
      · exact g
      · rw [if_neg g] at this; omega
    · have hp := List.getElem?_eq_getElem (l := t.ps) (i := i) hi
      rw [isReady_iff hp] at hr
      have := (h.ps _ _ hp).2.2.2.2.2.2.2.2.2.2
      rw [if_pos hr] at this
      exact List.count_pos_iff.1 (by omega)
  · intro h
    have nts := h.ts.nodup
    have lts : t.ts.length ≤ t.ps.length := by
      have := nodup_lenI (n := t.ps.length) nts fun x hx => by
        obtain ⟨y, hy, rfl⟩ := List.mem_map.1 hx
        have := h.ts.mem y hy
        exact ⟨this.1, this.2.1⟩
      simpa using this
    have lq : t.q.length ≤ t.ps.length := nodup_lenI h.q.2.1 fun x hx => (h.q.1 x hx).lt
    have := h.few
    refine ⟨⟨h.few, by omega, by omega⟩, fun i p hp => ?_, fun n hn => (h.q.1 n hn).lt, h.ts.mem, h.ts.chn⟩
    obtain ⟨⟨g1, g2, g3, g4, g5, g6, g7⟩, g8, g9⟩ := h.ps i p hp
    have hc := count_one nts (i : Nat)
    refine ⟨g1, g2, g3, g4, g5, g6, fun g => ?_, ?_, fun g => g8 ?_, fun g => g9 ?_, ?_⟩
    · rcases g7 with g7 | g7
      · exact g7
      · have := g4.1; omega
    · unfold cnt; rw [hc]; split <;> omega
    · unfold cnt at g; rw [hc] at g
      by_cases ht : ((i : Nat) : Int) ∈ t.ts.map Tm.proc
      · exact ht
      · rw [if_neg ht] at g; omega
    · unfold cnt at g; rw [hc] at g
      intro ht
      rw [if_pos (show ((i : Nat) : Int) ∈ t.ts.map Tm.proc from ht)] at g; omega
    · rw [count_one h.q.2.1]
      obtain ⟨hi, _⟩ := List.getElem?_eq_some_iff.1 hp
      have hr := isReady_iff (ps := t.ps) hp
      by_cases hm : ((i : Nat) : Int) ∈ t.q
      · rw [if_pos hm, if_pos (hr.1 (h.q.1 _ hm))]
      · rw [if_neg hm, if_neg fun e => hm (h.q.2.2 i hi (hr.2 e))]
theorem TabOk_iff (t : Tab) : TabOk t ↔ t.ps.length ≤ 8 ∧ TsOk t.ps.length t.ts ∧ (∀ i : Nat, (h : i < t.ps.length) → RowOk t.ts i t.ps[i]) ∧ QOk t.ps t.q :=
  ⟨fun h => ⟨h.few, h.ts, fun i hi => h.ps i _ (List.getElem?_eq_getElem hi), h.q⟩, fun ⟨a, b, c, d⟩ => ⟨a, b, fun i p hp => by
    obtain ⟨hi, e⟩ := List.getElem?_eq_some_iff.1 hp
    rw [← e]
    exact c i hi, d⟩⟩
instance (t : Tab) : Decidable (TabOk t) := decidable_of_iff _ (TabOk_iff t).symm
end Go.Fv.Pl

/-! Picking and yielding in turn. -/
namespace Go.Fv.Pl

theorem rot {T : List Int} (hn : T.Nodup) {k : Nat} (hk : k < T.length) : yield (T.drop k ++ T.take k) T[k] = T.drop (k + 1) ++ T.take (k + 1) := by
  have e : T.drop k ++ T.take k = T[k] :: (T.drop (k + 1) ++ T.take k) := by
    rw [List.drop_eq_getElem_cons hk, List.cons_append]
  have hp : (T.drop k ++ T.take k).Nodup := by
    have : (T.drop k ++ T.take k).Perm T := List.perm_append_comm.trans (by rw [List.take_append_drop])
    exact this.nodup_iff.2 hn
  rw [e] at hp ⊢
  rw [yield_head hp, List.append_assoc, take_snoc hk]

/-- The table in which the process has gone to the tail. -/
def Tab.yield (t : Tab) (p : Int) : Tab := { t with q := Pl.yield t.q p }
theorem TabOk.yield {t : Tab} (h : TabOk t) {p : Int} (hp : isReady t.ps p) : TabOk (t.yield p) := ⟨h.few, h.ts, h.ps, yield_ok h.q hp⟩

/-- The queue behind k rounds of picking and yielding. -/
structure Turn (t : Tab) (m : Int) (T : List Int) (k : Nat) (u : Tab) : Prop where
  ps : u.ps = t.ps
  ok : TabOk u
  q : u.q.filter (fun n => prio t.ps n = m) = T.drop k ++ T.take k
  le : ∀ n ∈ u.q, prio t.ps n ≤ m
theorem Turn.pick {t u : Tab} {m : Int} {T : List Int} {k : Nat} (h : Turn t m T k u) (hk : k < T.length) {b : Int} (hb : u.q.head? = some b) : best (prio u.ps) b u.q = T[k] := by
  rw [h.ps]
  refine best_head (m := m) h.le (r := T.drop (k + 1) ++ T.take k) ?_ hb
  rw [h.q, List.drop_eq_getElem_cons hk, List.cons_append]
theorem Turn.mem {t u : Tab} {m : Int} {T : List Int} {k : Nat} (h : Turn t m T k u) (hk : k < T.length) : T[k] ∈ u.q ∧ prio t.ps T[k] = m := by
  have : T[k] ∈ u.q.filter (fun n => prio t.ps n = m) := by
    rw [h.q, List.drop_eq_getElem_cons hk]; exact List.mem_append_left _ (List.mem_cons_self ..)
  simpa using List.mem_filter.1 this
theorem Turn.next {t u : Tab} {m : Int} {T : List Int} {k : Nat} (h : Turn t m T k u) (hn : T.Nodup) (hk : k < T.length) : Turn t m T (k + 1) (u.yield T[k]) := by
  obtain ⟨h1, h2⟩ := h.mem hk
  refine ⟨h.ps, h.ok.yield (h.ok.q.1 _ h1), ?_, fun n hn => ?_⟩
  · show (Pl.yield u.q T[k]).filter _ = _
    rw [yield_filter (by simpa using h2), h.q, rot hn hk]
  · unfold Tab.yield Pl.yield at hn
    rcases List.mem_append.1 hn with g | g
    · exact h.le n (List.mem_filter.1 g).1
    · rw [List.mem_singleton] at g; subst g; omega
theorem Turn.wrap {t u : Tab} {m : Int} {T : List Int} (h : Turn t m T T.length u) : Turn t m T 0 u := ⟨h.ps, h.ok, by rw [h.q]; simp, h.le⟩
end Go.Fv.Pl

/-! Looking up a process. -/
namespace Go.Fv.Pl
theorem at?_some {ps : List Pr} {n : Int} {p : Pr} : at? ps n = some p ↔ 0 ≤ n ∧ ps[n.toNat]? = some p := by
  unfold at?
  by_cases h : 0 ≤ n
  · simp [h]
  · simp [h]
theorem at?_nat {ps : List Pr} {i : Nat} : at? ps (i : Nat) = ps[i]? := by simp [at?]
end Go.Fv.Pl

/-! Waking, one or many; firing. -/
namespace Go.Fv.Pl

def wakeP (r1 : Int) (p : Pr) : Pr := { p with regs := p.regs.set 1 r1, state := 1, wait := 0, obj := 0 }
def setP (ps : List Pr) (n : Int) (f : Pr → Pr) : List Pr := ps.modify n.toNat f
def Tab.wake (t : Tab) (n : Int) (r1 : Int) : Tab := { ps := setP t.ps n (wakeP r1), q := t.q ++ [n], ts := t.ts.filter (·.proc ≠ n) }

theorem at?_set {ps : List Pr} {n m : Int} {f : Pr → Pr} (hn : 0 ≤ n) : at? (setP ps n f) m = if m = n then (at? ps m).map f else at? ps m := by
  unfold at? setP
  by_cases hm : 0 ≤ m
  · simp only [hm, if_true, List.getElem?_modify]
    by_cases e : m = n
    · subst e; simp
    · have : n.toNat ≠ m.toNat := by omega
      rw [if_neg e]; simp [this]
  · simp only [hm, if_false]
    by_cases e : m = n
    · subst e; exact absurd hn hm
    · rw [if_neg e]
theorem setP_len (ps : List Pr) (n : Int) (f : Pr → Pr) : (setP ps n f).length = ps.length := by simp [setP]

theorem TsOk.filter {n : Int} {l : List Tm} (h : TsOk n l) (f : Tm → Bool) : TsOk n (l.filter f) := by
  rw [TsOk_iff] at h ⊢
  exact ⟨fun t ht => h.1 t (List.mem_filter.1 ht).1, List.Nodup.sublist (List.filter_sublist.map _) h.2.1, List.Pairwise.sublist List.filter_sublist h.2.2⟩
theorem timed_filter {l : List Tm} {n m : Int} : timed (l.filter (·.proc ≠ n)) m ↔ timed l m ∧ m ≠ n := by
  unfold timed
  simp only [List.mem_map, List.mem_filter, decide_eq_true_eq]
  constructor
  · rintro ⟨a, ⟨h1, h2⟩, rfl⟩; exact ⟨⟨a, h1, rfl⟩, h2⟩
  · rintro ⟨⟨a, h1, rfl⟩, h2⟩; exact ⟨a, ⟨h1, h2⟩, rfl⟩

theorem TabOk.at {t : Tab} (h : TabOk t) {n : Int} {p : Pr} (hp : at? t.ps n = some p) : RowOk t.ts n p := by
  obtain ⟨h0, h1⟩ := at?_some.1 hp
  have := h.ps n.toNat p h1
  rwa [show ((n.toNat : Nat) : Int) = n by omega] at this
theorem TabOk_of {t : Tab} (few : t.ps.length ≤ 8) (ts : TsOk t.ps.length t.ts) (ps : ∀ n p, at? t.ps n = some p → RowOk t.ts n p) (q : QOk t.ps t.q) : TabOk t :=
  ⟨few, ts, fun i p hp => ps i p (by rw [at?_nat]; exact hp), q⟩

theorem wakeP_ok {r1 : Int} {p : Pr} (h : PrOk p) : PrOk (wakeP r1 p) := by
  obtain ⟨g1, g2, g3, g4, g5, g6, g7⟩ := h
  refine ⟨?_, by simp [wakeP], g3, by simp [wakeP], by simp [wakeP], by simp [wakeP], .inl rfl⟩
  simp only [wakeP, List.getElem?_set]
  simpa using g1

theorem TabOk.wake {t : Tab} (h : TabOk t) {n : Int} {p : Pr} (hp : at? t.ps n = some p) (hs : p.state = 2) (r1 : Int) : TabOk (t.wake n r1) := by
  have h0 := (at?_lt hp).1
  have hnq : n ∉ t.q := fun hm => by
    have := h.q.1 n hm
    unfold isReady at this
    rw [hp] at this
    simp [hs] at this
  refine TabOk_of (by rw [Tab.wake, setP_len]; exact h.few) (by rw [Tab.wake, setP_len]; exact h.ts.filter _) (fun m q hq => ?_) ⟨fun m hm => ?_, ?_, fun i hi hr => ?_⟩
  · simp only [Tab.wake] at hq ⊢
    rw [at?_set h0] at hq
    by_cases e : m = n
    · subst e
      rw [if_pos rfl, hp] at hq
      cases hq
      exact ⟨wakeP_ok (h.at hp).1, fun ht => absurd rfl (timed_filter.1 ht).2, fun _ => by simp [wakeP]⟩
    · rw [if_neg e] at hq
      have := h.at hq
      refine ⟨this.1, fun ht => this.2.1 (timed_filter.1 ht).1, fun ht => this.2.2 fun g => ht (timed_filter.2 ⟨g, e⟩)⟩
  · simp only [Tab.wake] at hm ⊢
    unfold isReady
    rw [at?_set h0]
    rcases List.mem_append.1 hm with g | g
    · rw [if_neg (by rintro rfl; exact hnq g)]
      exact h.q.1 m g
    · rw [List.mem_singleton] at g
      subst g
      rw [if_pos rfl, hp]
      rfl
  · simp only [Tab.wake]
    rw [List.nodup_append]
    refine ⟨h.q.2.1, by simp, fun a ha b hb => ?_⟩
    rw [List.mem_singleton] at hb
    subst hb
    rintro rfl
    exact hnq ha
  · simp only [Tab.wake] at hi hr ⊢
    rw [setP_len] at hi
    by_cases e : ((i : Nat) : Int) = n
    · exact List.mem_append.2 (.inr (by simp [e]))
    · refine List.mem_append.2 (.inl (h.q.2.2 i hi ?_))
      unfold isReady at hr ⊢
      rwa [at?_set h0, if_neg e] at hr

/-- Many, one behind the other: each as 'r' says. -/
def Tab.wakes (t : Tab) (r : Pr → Int) : List Int → Tab
  | [] => t
  | n :: l => (t.wake n (((at? t.ps n).map r).getD 0)).wakes r l
theorem wakes_append (r : Pr → Int) : ∀ (l m : List Int) (t : Tab), t.wakes r (l ++ m) = (t.wakes r l).wakes r m
  | [], m, t => rfl
  | n :: l, m, t => wakes_append r l m _
theorem wakes_at {r : Pr → Int} : ∀ {l : List Int} {t : Tab} {m : Int}, (∀ n ∈ l, 0 ≤ n) → m ∉ l → at? (t.wakes r l).ps m = at? t.ps m
  | [], t, m, _, _ => rfl
  | n :: l, t, m, h0, h => by
    have : m ≠ n := fun e => h (by simp [e])
    rw [Tab.wakes, wakes_at (fun a ha => h0 a (by simp [ha])) (fun g => h (by simp [g]))]
    rw [Tab.wake, at?_set (h0 n (by simp)), if_neg this]
theorem wakes_ts {r : Pr → Int} : ∀ {l : List Int} {t : Tab}, (t.wakes r l).ts = t.ts.filter (·.proc ∉ l)
  | [], t => by simp [Tab.wakes]; exact (List.filter_eq_self.2 fun _ _ => rfl).symm
  | n :: l, t => by
    rw [Tab.wakes, wakes_ts, Tab.wake, List.filter_filter]
    congr 1
    funext x
    simp only [ne_eq, decide_not, List.mem_cons, not_or, Bool.decide_and]
    rw [Bool.and_comm]
theorem wakes_len {r : Pr → Int} : ∀ {l : List Int} {t : Tab}, (t.wakes r l).ps.length = t.ps.length
  | [], t => rfl
  | n :: l, t => by rw [Tab.wakes, wakes_len, Tab.wake, setP_len]
theorem TabOk.wakes {r : Pr → Int} : ∀ {l : List Int} {t : Tab}, TabOk t → l.Nodup → (∀ n ∈ l, (at? t.ps n).map Pr.state = some 2) → TabOk (t.wakes r l)
  | [], t, h, _, _ => h
  | n :: l, t, h, hn, hs => by
    obtain ⟨p, hp, hs2⟩ := Option.map_eq_some_iff.1 (hs n (by simp))
    refine (h.wake hp hs2 _).wakes (List.nodup_cons.1 hn).2 fun m hm => ?_
    have : m ≠ n := by rintro rfl; exact (List.nodup_cons.1 hn).1 hm
    rw [Tab.wake, at?_set (at?_lt hp).1, if_neg this]
    exact hs m (by simp [hm])

theorem nodup_inj {α β : Type} {f : α → β} : ∀ {l : List α} {a b : α}, (l.map f).Nodup → a ∈ l → b ∈ l → f a = f b → a = b
  | c :: l, a, b, hn, ha, hb, e => by
    rw [List.map_cons, List.nodup_cons] at hn
    rcases List.mem_cons.1 ha with e1 | h1
    · rcases List.mem_cons.1 hb with e2 | h2
      · rw [e1, e2]
      · exact absurd (List.mem_map.2 ⟨b, h2, by rw [← e, e1]⟩) hn.1
    · rcases List.mem_cons.1 hb with e2 | h2
      · exact absurd (List.mem_map.2 ⟨a, h1, by rw [e, e2]⟩) hn.1
      · exact nodup_inj hn.2 h1 h2 e

/-- Who is due. -/
def dues (ts : List Tm) (now : Int) : List Int := (ts.filter (·.due ≤ now)).map Tm.proc
def lateOf (p : Pr) : Int := if p.wait = 1 then 0 else 4294967294
def Tab.fire (t : Tab) (now : Int) : Tab := t.wakes lateOf (dues t.ts now)
theorem dues_nodup {n : Int} {ts : List Tm} (h : TsOk n ts) (now : Int) : (dues ts now).Nodup := (h.filter _).nodup
theorem dues_wait {t : Tab} (h : TabOk t) (now : Int) : ∀ n ∈ dues t.ts now, (at? t.ps n).map Pr.state = some 2 := by
  intro n hn
  obtain ⟨x, hx, rfl⟩ := List.mem_map.1 hn
  have hx := (List.mem_filter.1 hx).1
  have hr := h.ts.mem x hx
  have e : at? t.ps x.proc = some (t.ps[x.proc.toNat]'(by have := hr.1; have := hr.2.1; omega)) := at?_some.2 ⟨hr.1, List.getElem?_eq_getElem _⟩
  rw [e]
  have := (h.at e).2.1 (List.mem_map.2 ⟨x, hx, rfl⟩)
  simp [this]
theorem TabOk.fire {t : Tab} (h : TabOk t) (now : Int) : TabOk (t.fire now) := h.wakes (dues_nodup h.ts now) (dues_wait h now)
theorem fire_ts {t : Tab} (h : TabOk t) (now : Int) : (t.fire now).ts = t.ts.filter (fun x => now < x.due) := by
  rw [Tab.fire, wakes_ts]
  refine List.filter_congr fun x hx => ?_
  have hn := h.ts.nodup
  have : x.proc ∈ dues t.ts now ↔ x.due ≤ now := by
    constructor
    · intro hm
      obtain ⟨y, hy, he⟩ := List.mem_map.1 hm
      have hy' := List.mem_filter.1 hy
      have : y = x := nodup_inj hn hy'.1 hx he
      subst this
      simpa using hy'.2
    · intro hd
      exact List.mem_map.2 ⟨x, List.mem_filter.2 ⟨hx, by simpa using hd⟩, rfl⟩
  by_cases hd : x.due ≤ now
  · simp [this, hd]
  · have : now < x.due := by omega
    simp [*]
theorem filter_split {l : List Tm} (h : l.Pairwise before) {now later : Int} (hle : now ≤ later) :
    l.filter (·.due ≤ later) = l.filter (·.due ≤ now) ++ (l.filter (fun x => now < x.due)).filter (·.due ≤ later) := by
  induction l with
  | nil => rfl
  | cons a l ih =>
    have ih := ih (List.pairwise_cons.1 h).2
    by_cases h1 : a.due ≤ now
    · rw [List.filter_cons_of_pos (by simp; omega), List.filter_cons_of_pos (by simpa using h1), List.filter_cons_of_neg (by simp; omega), ih, List.cons_append]
    · have all : ∀ b ∈ l, ¬ b.due ≤ now := fun b hb => by
        have := (List.pairwise_cons.1 h).1 b hb
        unfold before at this
        omega
      have e1 : (a :: l).filter (·.due ≤ now) = [] := List.filter_eq_nil_iff.2 fun b hb => by
        rcases List.mem_cons.1 hb with rfl | hb
        · simpa using h1
        · simpa using all b hb
      have e2 : (a :: l).filter (fun x => now < x.due) = a :: l := List.filter_eq_self.2 fun b hb => by
        rcases List.mem_cons.1 hb with rfl | hb
        · simp; omega
        · have := all b hb; simp; omega
      rw [e1, e2, List.nil_append]
theorem fire_fire {t : Tab} (h : TabOk t) {now later : Int} (hle : now ≤ later) : dues t.ts later = dues t.ts now ++ dues (t.fire now).ts later ∧ (t.fire now).fire later = t.fire later := by
  have e : dues t.ts later = dues t.ts now ++ dues (t.fire now).ts later := by
    rw [fire_ts h]
    unfold dues
    rw [filter_split h.ts.pairwise hle, List.map_append]
  refine ⟨e, ?_⟩
  conv => rhs; rw [Tab.fire, e, wakes_append]
  rfl
end Go.Fv.Pl
