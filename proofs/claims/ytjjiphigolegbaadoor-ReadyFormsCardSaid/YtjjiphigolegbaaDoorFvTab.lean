/-
  The plain data of the layers 8 and 9: timers, processes, tables; what is in form; who is picked. By an AI agent; no person has read it.
-/
set_option linter.unusedVariables false
set_option linter.unusedSimpArgs false
set_option linter.unusedSectionVars false
/-! The plain data of the layers 8 and 9: timers, processes, tables; what is in form; who is picked. -/
namespace Go.Fv.Pl

structure Tm where
  proc : Int
  due : Int
  deriving DecidableEq
structure Pr where
  regs : List Int
  pc : Int
  state : Int
  prio : Int
  wait : Int
  obj : Int
  deriving DecidableEq
structure Tab where
  ps : List Pr
  q : List Int
  ts : List Tm
  deriving DecidableEq

/-! ### Lists by their beginnings -/
section
variable {α : Type}
theorem take_snoc {l : List α} {i : Nat} (h : i < l.length) : l.take (i + 1) = l.take i ++ [l[i]] := by
  induction l generalizing i with
  | nil => simp at h
  | cons a l ih =>
    cases i with
    | zero => rfl
    | succ i => simp only [List.take_succ_cons, List.getElem_cons_succ, List.cons_append, ih (by simpa using h)]
theorem take_all {l : List α} {i : Nat} (h : l.length ≤ i) : l.take i = l := List.take_of_length_le h
theorem last_take {l : List α} {i : Nat} (h : i < l.length) : (l.take (i + 1)).getLast? = some l[i] := by
  rw [take_snoc h, List.getLast?_append]; simp
end

/-! ### Timers -/
def before (a b : Tm) : Prop := a.due < b.due ∨ a.due = b.due ∧ a.proc < b.proc
instance (a b : Tm) : Decidable (before a b) := inferInstanceAs (Decidable (_ ∨ _ ∧ _))
def right (n : Int) (t : Tm) : Prop := 0 ≤ t.proc ∧ t.proc < n ∧ 0 ≤ t.due ∧ t.due ≤ 1010000
instance (n : Int) (t : Tm) : Decidable (right n t) := inferInstanceAs (Decidable (_ ∧ _ ∧ _ ∧ _))
/-- The list, told from its beginning on: each timer is behind the last of those ahead of it. -/
inductive TsOk (n : Int) : List Tm → Prop where
  | nil : TsOk n []
  | snoc {l : List Tm} {t : Tm} : TsOk n l → right n t → t.proc ∉ l.map Tm.proc → (∀ a, l.getLast? = some a → before a t) → TsOk n (l ++ [t])

theorem snoc_inj {α : Type} {l l' : List α} {a b : α} (h : l ++ [a] = l' ++ [b]) : l = l' ∧ a = b := by
  have := List.append_inj' h rfl
  exact ⟨this.1, by simpa using this.2⟩
theorem TsOk_snoc {n : Int} {l : List Tm} {t : Tm} : TsOk n (l ++ [t]) ↔ TsOk n l ∧ right n t ∧ t.proc ∉ l.map Tm.proc ∧ ∀ a, l.getLast? = some a → before a t := by
  constructor
  · intro h
    generalize e : l ++ [t] = m at h
    cases h with
    | nil => simp at e
    | snoc h1 h2 h3 h4 =>
      obtain ⟨rfl, rfl⟩ := snoc_inj e
      exact ⟨h1, h2, h3, h4⟩
  · rintro ⟨h1, h2, h3, h4⟩
    exact .snoc h1 h2 h3 h4
theorem TsOk.take {n : Int} {l : List Tm} (h : TsOk n l) : ∀ i, TsOk n (l.take i) := by
  induction h with
  | nil => intro i; simp; exact .nil
  | snoc h1 h2 h3 h4 ih =>
    rename_i l t
    intro i
    by_cases hi : i ≤ l.length
    · rw [List.take_append_of_le_length hi]; exact ih i
    · rw [take_all (by simp; omega)]; exact .snoc h1 h2 h3 h4
theorem TsOk.mem {n : Int} {l : List Tm} (h : TsOk n l) : ∀ t ∈ l, right n t := by
  induction h with
  | nil => intro t h; simp at h
  | snoc h1 h2 h3 h4 ih =>
    intro t ht
    rcases List.mem_append.1 ht with h | h
    · exact ih t h
    · rw [List.mem_singleton] at h; subst h; exact h2
theorem TsOk.nodup {n : Int} {l : List Tm} (h : TsOk n l) : (l.map Tm.proc).Nodup := by
  induction h with
  | nil => exact List.nodup_nil
  | snoc h1 h2 h3 h4 ih =>
    rename_i l t
    rw [List.map_append, List.nodup_append]
    refine ⟨ih, by simp, fun a ha b hb => ?_⟩
    simp at hb
    subst hb
    exact fun e => h3 (e ▸ ha)
theorem before.trans {a b c : Tm} (h : before a b) (h' : before b c) : before a c := by
  unfold before at *
  omega
theorem getLast?_mem {α : Type} {l : List α} {a : α} (h : l.getLast? = some a) : a ∈ l := List.mem_of_getLast? h
theorem TsOk.pairwise {n : Int} {l : List Tm} (h : TsOk n l) : l.Pairwise before := by
  induction h with
  | nil => exact .nil
  | snoc h1 h2 h3 h4 ih =>
    rename_i l t
    rw [List.pairwise_append]
    refine ⟨ih, by simp, fun a ha b hb => ?_⟩
    rw [List.mem_singleton] at hb
    subst hb
    rcases List.eq_nil_or_concat l with rfl | ⟨l', z, e⟩
    · simp at ha
    · rw [List.concat_eq_append] at e
      subst e
      have hz := h4 z (by simp)
      rcases List.mem_append.1 ha with h | h
      · exact ((List.pairwise_append.1 ih).2.2 a h z (by simp)).trans hz
      · rw [List.mem_singleton] at h; subst h; exact hz
theorem TsOk_iff {n : Int} {l : List Tm} : TsOk n l ↔ (∀ t ∈ l, right n t) ∧ (l.map Tm.proc).Nodup ∧ l.Pairwise before := by
  refine ⟨fun h => ⟨h.mem, h.nodup, h.pairwise⟩, fun ⟨h1, h2, h3⟩ => ?_⟩
  have main : ∀ i, i ≤ l.length → TsOk n (l.take i) := by
    intro i
    induction i with
    | zero => intro _; simp; exact .nil
    | succ i ih =>
      intro hi
      rw [take_snoc (by omega)]
      refine .snoc (ih (by omega)) (h1 _ (List.getElem_mem _)) ?_ fun a ha => ?_
      · have : (l.map Tm.proc).take (i + 1) = (l.take i).map Tm.proc ++ [l[i].proc] := by
          rw [take_snoc (by simp; omega)]; simp
        have hn : ((l.map Tm.proc).take (i + 1)).Nodup := List.Nodup.sublist (List.take_sublist _ _) h2
        rw [this, List.nodup_append] at hn
        exact fun hm => hn.2.2 _ hm _ (by simp) rfl
      · have : (l.take (i + 1)).Pairwise before := List.Pairwise.sublist (List.take_sublist _ _) h3
        rw [take_snoc (by omega), List.pairwise_append] at this
        exact this.2.2 a (List.mem_of_getLast? ha) _ (by simp)
  have := main l.length (Nat.le_refl _)
  rwa [take_all (Nat.le_refl _)] at this
instance (n : Int) (l : List Tm) : Decidable (TsOk n l) := decidable_of_iff _ TsOk_iff.symm

def timed (ts : List Tm) (i : Int) : Prop := i ∈ ts.map Tm.proc
instance (ts : List Tm) (i : Int) : Decidable (timed ts i) := inferInstanceAs (Decidable (_ ∈ _))
/-- When the process's first timer is due. -/
def dueOf (ts : List Tm) (p : Int) : Int := ((ts.find? fun t => t.proc == p).map Tm.due).getD 0

/-! ### Processes -/
def PrOk (p : Pr) : Prop := p.regs[0]? = some 0 ∧ (0 ≤ p.state ∧ p.state ≤ 3) ∧ (0 ≤ p.prio ∧ p.prio ≤ 255) ∧ (0 ≤ p.wait ∧ p.wait ≤ 4) ∧ (p.wait ≠ 0 ↔ p.state = 2) ∧ 0 ≤ p.obj ∧ (p.obj = 0 ∨ p.wait ≠ 0 ∧ p.wait ≠ 1)
instance (p : Pr) : Decidable (PrOk p) := inferInstanceAs (Decidable (_ ∧ _ ∧ _ ∧ _ ∧ _ ∧ _ ∧ _))
/-- A process at its place, with its timer. -/
def RowOk (ts : List Tm) (i : Int) (p : Pr) : Prop := PrOk p ∧ (timed ts i → p.state = 2) ∧ (¬ timed ts i → p.wait ≠ 1)
instance (ts : List Tm) (i : Int) (p : Pr) : Decidable (RowOk ts i p) := inferInstanceAs (Decidable (_ ∧ (_ → _) ∧ (¬ _ → _)))

/-- Process n, where n is one. -/
def at? (ps : List Pr) (n : Int) : Option Pr := if 0 ≤ n then ps[n.toNat]? else none
def isReady (ps : List Pr) (n : Int) : Prop := (at? ps n).map Pr.state = some 1
instance (ps : List Pr) (n : Int) : Decidable (isReady ps n) := inferInstanceAs (Decidable (_ = _))
def QOk (ps : List Pr) (q : List Int) : Prop := (∀ n ∈ q, isReady ps n) ∧ q.Nodup ∧ ∀ i, i < ps.length → isReady ps (i : Nat) → ((i : Nat) : Int) ∈ q
instance (ps : List Pr) (q : List Int) : Decidable (QOk ps q) := inferInstanceAs (Decidable (_ ∧ _ ∧ ∀ i, i < _ → _))
structure TabOk (t : Tab) : Prop where
  few : t.ps.length ≤ 8
  ts : TsOk t.ps.length t.ts
  ps : ∀ (i : Nat) p, t.ps[i]? = some p → RowOk t.ts i p
  q : QOk t.ps t.q

def prio (ps : List Pr) (n : Int) : Int := ((at? ps n).map Pr.prio).getD 0
/-- The greatest, the farthest ahead. -/
def best (f : Int → Int) (b : Int) (l : List Int) : Int := l.foldl (fun b n => if f n > f b then n else b) b
def yield (q : List Int) (p : Int) : List Int := q.filter (· ≠ p) ++ [p]

theorem at?_lt {ps : List Pr} {n : Int} {p : Pr} (h : at? ps n = some p) : 0 ≤ n ∧ n < ps.length := by
  unfold at? at h
  split at h
  · obtain ⟨h1, _⟩ := List.getElem?_eq_some_iff.1 h
    omega
  · cases h
theorem isReady.lt {ps : List Pr} {n : Int} (h : isReady ps n) : 0 ≤ n ∧ n < ps.length := by
  unfold isReady at h
  cases e : at? ps n with
  | none => rw [e] at h; cases h
  | some p => exact at?_lt e

theorem best_ge (f : Int → Int) : ∀ (l : List Int) (b : Int), f b ≤ f (best f b l) ∧ ∀ n ∈ l, f n ≤ f (best f b l)
  | [], b => ⟨Int.le_refl _, fun n h => by simp at h⟩
  | a :: l, b => by
    have ih := best_ge f l (if f a > f b then a else b)
    have e : best f b (a :: l) = best f (if f a > f b then a else b) l := rfl
    rw [e]
    by_cases h : f a > f b
    · rw [if_pos h] at ih ⊢
      refine ⟨by omega, fun n hn => ?_⟩
      rcases List.mem_cons.1 hn with rfl | hn
      · exact ih.1
      · exact ih.2 n hn
    · rw [if_neg h] at ih ⊢
      refine ⟨ih.1, fun n hn => ?_⟩
      rcases List.mem_cons.1 hn with rfl | hn
      · omega
      · exact ih.2 n hn
theorem best_mem (f : Int → Int) : ∀ (l : List Int) (b : Int), best f b l = b ∨ best f b l ∈ l
  | [], b => .inl rfl
  | a :: l, b => by
    have e : best f b (a :: l) = best f (if f a > f b then a else b) l := rfl
    rw [e]
    rcases best_mem f l (if f a > f b then a else b) with h | h
    · rw [h]
      by_cases g : f a > f b
      · rw [if_pos g]; exact .inr (by simp)
      · rw [if_neg g]; exact .inl rfl
    · exact .inr (List.mem_cons_of_mem _ h)
/-- It's the first of those with the greatest. -/
theorem best_first (f : Int → Int) (m : Int) : ∀ (l : List Int) (b : Int), f b ≤ m → (∀ n ∈ l, f n ≤ m) →
    (f b = m → best f b l = b) ∧ (f b < m → ∀ x r, l.filter (f · = m) = x :: r → best f b l = x)
  | [], b, _, _ => ⟨fun _ => rfl, fun _ x r h => by simp at h⟩
  | a :: l, b, hb, hl => by
    have e : best f b (a :: l) = best f (if f a > f b then a else b) l := rfl
    have ha := hl a (by simp)
    rw [e]
    by_cases h : f a > f b
    · rw [if_pos h]
      have ih := best_first f m l a ha fun n hn => hl n (List.mem_cons_of_mem _ hn)
      refine ⟨fun g => by omega, fun g x r hx => ?_⟩
      by_cases h2 : f a = m
      · rw [List.filter_cons_of_pos (by simpa using h2)] at hx
        rw [ih.1 h2]
        exact (List.cons.inj hx).1
      · rw [List.filter_cons_of_neg (by simpa using h2)] at hx
        exact ih.2 (by omega) x r hx
    · rw [if_neg h]
      have ih := best_first f m l b hb fun n hn => hl n (List.mem_cons_of_mem _ hn)
      refine ⟨ih.1, fun g x r hx => ?_⟩
      rw [List.filter_cons_of_neg (by simp; omega)] at hx
      exact ih.2 g x r hx
theorem best_head {f : Int → Int} {m b : Int} {l : List Int} (hl : ∀ n ∈ l, f n ≤ m) {x : Int} {r : List Int} (hx : l.filter (f · = m) = x :: r) (hb : l.head? = some b) : best f b l = x := by
  cases l with
  | nil => simp at hb
  | cons a l =>
    simp at hb
    subst hb
    have h := best_first f m (a :: l) a (hl a (by simp)) hl
    by_cases g : f a = m
    · rw [h.1 g]
      rw [List.filter_cons_of_pos (by simpa using g)] at hx
      exact (List.cons.inj hx).1
    · exact h.2 (by have := hl a (by simp); omega) x r hx

theorem yield_filter {f : Int → Bool} {q : List Int} {p : Int} (hp : f p = true) : (yield q p).filter f = yield (q.filter f) p := by
  unfold yield
  rw [List.filter_append, List.filter_filter, List.filter_filter]
  congr 1
  · congr 1; funext x; rw [Bool.and_comm]
  · rw [List.filter_cons_of_pos hp]; rfl
theorem yield_head {p : Int} {r : List Int} (h : (p :: r).Nodup) : yield (p :: r) p = r ++ [p] := by
  unfold yield
  rw [List.filter_cons_of_neg (by simp)]
  congr 1
  refine List.filter_eq_self.2 fun a ha => ?_
  have := (List.nodup_cons.1 h).1
  simp
  rintro rfl
  exact this ha
theorem yield_ok {ps : List Pr} {q : List Int} {p : Int} (h : QOk ps q) (hp : isReady ps p) : QOk ps (yield q p) := by
  refine ⟨fun n hn => ?_, ?_, fun i hi hr => ?_⟩
  · unfold yield at hn
    rcases List.mem_append.1 hn with h' | h'
    · exact h.1 n (List.mem_filter.1 h').1
    · rw [List.mem_singleton] at h'; subst h'; exact hp
  · unfold yield
    rw [List.nodup_append]
    refine ⟨List.Nodup.sublist List.filter_sublist h.2.1, by simp, fun a ha b hb => ?_⟩
    have := (List.mem_filter.1 ha).2
    rw [List.mem_singleton] at hb
    subst hb
    simpa using this
  · unfold yield
    by_cases e : ((i : Nat) : Int) = p
    · exact List.mem_append.2 (.inr (by simp [e]))
    · exact List.mem_append.2 (.inl (List.mem_filter.2 ⟨h.2.2 i hi hr, by simpa using e⟩))
end Go.Fv.Pl
