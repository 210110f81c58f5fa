/-
  By process, when its timer is due: the plain facts. By an AI agent; no person has read it.
-/
import Derived.Test.YtjjiphigolegbabDoorFvSpR
set_option linter.unusedVariables false
set_option linter.unusedSimpArgs false
set_option linter.unusedSectionVars false
/-! By process, when its timer is due: the plain facts. -/
namespace Go.Fv.Tr
open Go Go.Fv Go.Fv.Pl Go.Proofs
set_option linter.unusedSimpArgs false
set_option linter.unusedVariables false

/-- The timers that a row of dues tells, by number. -/
def tmsF : List Int → Int → List Tm
  | [], _ => []
  | a :: d, i => (if 0 ≤ a then [⟨i, a⟩] else []) ++ tmsF d (i + 1)
def lst (d : List Int) : List Tm := isort (tmsF d 0)

theorem mem_tmsF {t : Tm} : ∀ {d : List Int} {i : Int}, t ∈ tmsF d i ↔ ∃ j : Nat, ∃ a, d[j]? = some a ∧ 0 ≤ a ∧ t = ⟨i + j, a⟩
  | [], i => by simp [tmsF]
  | a :: d, i => by
    rw [tmsF, List.mem_append, mem_tmsF]
    constructor
    · rintro (h | ⟨j, b, h1, h2, rfl⟩)
      · split at h
        · rename_i h0
          rw [List.mem_singleton] at h
          exact ⟨0, a, rfl, h0, by simp [h]⟩
        · cases h
      · exact ⟨j + 1, b, h1, h2, by congr 1; omega⟩
    · rintro ⟨j, b, h1, h2, rfl⟩
      cases j with
      | zero =>
        have e : a = b := by simpa using h1
        subst e
        left; rw [if_pos h2]; simp
      | succ j => exact .inr ⟨j, b, h1, h2, by congr 1; omega⟩
theorem tmsF_lt : ∀ (d : List Int) (i : Int), ∀ t ∈ tmsF d i, i ≤ t.proc := fun d i t ht => by
  obtain ⟨j, a, _, _, rfl⟩ := mem_tmsF.1 ht
  show i ≤ i + j
  omega
theorem tmsF_nodup : ∀ (d : List Int) (i : Int), ((tmsF d i).map Tm.proc).Nodup
  | [], i => by simp [tmsF]
  | a :: d, i => by
    rw [tmsF, List.map_append, List.nodup_append]
    refine ⟨by split <;> simp, tmsF_nodup d (i + 1), fun x hx y hy e => ?_⟩
    obtain ⟨t, ht, rfl⟩ := List.mem_map.1 hy
    have := tmsF_lt d (i + 1) t ht
    split at hx
    · simp at hx; omega
    · simp at hx
theorem tmsF_set {v : Int} (hv : 0 ≤ v) : ∀ {d : List Int} {k : Nat} {i : Int}, k < d.length → (tmsF (d.set k v) i).Perm (⟨i + k, v⟩ :: tmsF (d.set k (-1)) i)
  | [], k, i, h => by simp at h
  | a :: d, 0, i, h => by
    simp only [List.set_cons_zero, tmsF, if_pos hv]
    rw [if_neg (by omega)]
    simp
  | a :: d, k + 1, i, h => by
    simp only [List.set_cons_succ, tmsF]
    have ih := tmsF_set hv (d := d) (k := k) (i := i + 1) (by simpa using h)
    have e : i + 1 + (k : Int) = i + ((k + 1 : Nat) : Int) := by omega
    rw [e] at ih
    exact (ih.append_left _).trans List.perm_middle
theorem tmsF_drop : ∀ {d : List Int} {k : Nat} {i : Int}, k < d.length → tmsF (d.set k (-1)) i = (tmsF d i).filter (·.proc ≠ i + k)
  | [], k, i, h => by simp at h
  | a :: d, 0, i, h => by
    simp only [List.set_cons_zero, tmsF]
    rw [if_neg (by omega), List.filter_append]
    have e1 : (tmsF d (i + 1)).filter (·.proc ≠ i + ((0 : Nat) : Int)) = tmsF d (i + 1) := List.filter_eq_self.2 fun t ht => by
      have := tmsF_lt d (i + 1) t ht
      simp; omega
    have e2 : (if 0 ≤ a then [(⟨i, a⟩ : Tm)] else []).filter (·.proc ≠ i + ((0 : Nat) : Int)) = [] := by
      split <;> simp
    rw [e1, e2]
  | a :: d, k + 1, i, h => by
    simp only [List.set_cons_succ, tmsF]
    have ih := tmsF_drop (d := d) (k := k) (i := i + 1) (by simpa using h)
    have e : i + 1 + (k : Int) = i + ((k + 1 : Nat) : Int) := by omega
    rw [e] at ih
    rw [List.filter_append, ih]
    congr 1
    refine (List.filter_eq_self.2 fun t ht => ?_).symm
    split at ht
    · rw [List.mem_singleton] at ht; subst ht; simp; omega
    · cases ht
theorem set_same {d : List Int} {k : Nat} {v : Int} (h : d[k]? = some v) : d.set k v = d := by
  refine List.ext_getElem? fun i => ?_
  rw [List.getElem?_set]
  by_cases e : k = i
  · subst e
    rw [if_pos rfl, if_pos (List.getElem?_eq_some_iff.1 h).1, h]
  · rw [if_neg e]
theorem lst_sorted (d : List Int) : (lst d).Pairwise before := isort_sorted (tmsF d 0) [] (by simpa using tmsF_nodup d 0) .nil
theorem lst_perm (d : List Int) : (lst d).Perm (tmsF d 0) := isort_perm _
theorem lst_eq {d : List Int} {l : List Tm} (hs : l.Pairwise before) (hp : (tmsF d 0).Perm l) : lst d = l := sorted_eq (lst_sorted d) hs ((lst_perm d).trans hp)
theorem tmsF_len : ∀ (d : List Int) (i : Int), (tmsF d i).length ≤ d.length
  | [], _ => by simp [tmsF]
  | a :: d, i => by
    have := tmsF_len d (i + 1)
    simp only [tmsF, List.length_append, List.length_cons]
    split <;> simp <;> omega
theorem lst_len (d : List Int) : (lst d).length ≤ d.length := by rw [lst, isort_len]; exact tmsF_len d 0

/-- The least one, the first of several. -/
def sel (d : List Int) : Nat → Int
  | 0 => -1
  | i + 1 => if 0 ≤ d.getD i (-1) ∧ (sel d i < 0 ∨ d.getD i (-1) < d.getD (sel d i).toNat (-1)) then i else sel d i
theorem sel_inv (d : List Int) : ∀ i : Nat, (sel d i = -1 ∧ ∀ j, j < i → d.getD j (-1) < 0) ∨ (0 ≤ sel d i ∧ sel d i < i ∧ 0 ≤ d.getD (sel d i).toNat (-1) ∧
    ∀ j : Nat, j < i → 0 ≤ d.getD j (-1) → d.getD (sel d i).toNat (-1) < d.getD j (-1) ∨ (d.getD (sel d i).toNat (-1) = d.getD j (-1) ∧ sel d i ≤ j))
  | 0 => .inl ⟨rfl, fun j h => by omega⟩
  | i + 1 => by
    have ih := sel_inv d i
    by_cases hc : 0 ≤ d.getD i (-1) ∧ (sel d i < 0 ∨ d.getD i (-1) < d.getD (sel d i).toNat (-1))
    · have e : sel d (i + 1) = i := by rw [sel, if_pos hc]
      rw [e, Int.toNat_natCast]
      refine .inr ⟨by omega, by omega, hc.1, fun j hj h0 => ?_⟩
      by_cases hji : j = i
      · subst hji; exact .inr ⟨rfl, Int.le_refl _⟩
      · rcases ih with ⟨_, h2⟩ | ⟨h1, h2, h3, h4⟩
        · have := h2 j (by omega); omega
        · have := h4 j (by omega) h0
          rcases hc.2 with g | g
          · omega
          · left; omega
    · have e : sel d (i + 1) = sel d i := by rw [sel, if_neg hc]
      rw [e]
      rcases ih with ⟨h1, h2⟩ | ⟨h1, h2, h3, h4⟩
      · refine .inl ⟨h1, fun j hj => ?_⟩
        by_cases hji : j = i
        · subst hji
          by_cases g : 0 ≤ d.getD j (-1)
          · exact absurd ⟨g, .inl (by omega)⟩ hc
          · omega
        · exact h2 j (by omega)
      · refine .inr ⟨h1, by omega, h3, fun j hj h0 => ?_⟩
        by_cases hji : j = i
        · subst hji
          have : ¬ d.getD j (-1) < d.getD (sel d j).toNat (-1) := fun g => hc ⟨h0, .inr g⟩
          by_cases g : d.getD (sel d j).toNat (-1) = d.getD j (-1)
          · exact .inr ⟨g, by omega⟩
          · left; omega
        · exact h4 j (by omega) h0
/-- The least one is the list's first. -/
theorem lst_cons {d : List Int} {k : Nat} (hk : k < d.length) (hs : sel d d.length = k) (h0 : 0 ≤ d.getD k (-1)) : lst d = ⟨k, d.getD k (-1)⟩ :: lst (d.set k (-1)) := by
  have hg : d[k]? = some (d.getD k (-1)) := by rw [List.getD_eq_getElem?_getD, List.getElem?_eq_getElem hk]; rfl
  have hp : (tmsF d 0).Perm (⟨k, d.getD k (-1)⟩ :: tmsF (d.set k (-1)) 0) := by
    have := tmsF_set h0 (d := d) (k := k) (i := 0) hk
    rw [set_same hg, Int.zero_add] at this
    exact this
  refine lst_eq (List.pairwise_cons.2 ⟨fun t ht => ?_, lst_sorted _⟩) (hp.trans ((lst_perm _).symm.cons _))
  have ht := (lst_perm _).mem_iff.1 ht
  obtain ⟨j, a, h1, h2, rfl⟩ := mem_tmsF.1 ht
  rw [List.getElem?_set] at h1
  by_cases e : k = j
  · subst e
    rw [if_pos rfl, if_pos hk] at h1
    cases h1
    omega
  · rw [if_neg e] at h1
    have hj := (List.getElem?_eq_some_iff.1 h1).1
    have hja : d.getD j (-1) = a := by rw [List.getD_eq_getElem?_getD, h1]; rfl
    rcases sel_inv d d.length with ⟨g, _⟩ | ⟨_, _, _, g⟩
    · omega
    · have := g j hj (by omega)
      rw [hs, Int.toNat_natCast, hja] at this
      unfold before
      simp only
      omega
theorem lst_nil {d : List Int} (hs : sel d d.length = -1) : lst d = [] := by
  have : tmsF d 0 = [] := by
    refine List.eq_nil_iff_forall_not_mem.2 fun t ht => ?_
    obtain ⟨j, a, h1, h2, _⟩ := mem_tmsF.1 ht
    have hj := (List.getElem?_eq_some_iff.1 h1).1
    have hja : d.getD j (-1) = a := by rw [List.getD_eq_getElem?_getD, h1]; rfl
    rcases sel_inv d d.length with ⟨_, g⟩ | ⟨g, _⟩
    · have := g j hj; omega
    · omega
  rw [lst, this]; rfl

/-! ### What a list says -/
def no8 : List Int := List.replicate 8 (-1)
def rd (ts : List Tm) : List Int := ts.foldl (fun d t => d.set t.proc.toNat t.due) no8
theorem rd_snoc (ts : List Tm) (t : Tm) : rd (ts ++ [t]) = (rd ts).set t.proc.toNat t.due := by simp [rd, List.foldl_append]
theorem rd_len' : ∀ (ts : List Tm) (d : List Int), (ts.foldl (fun d t => d.set t.proc.toNat t.due) d).length = d.length
  | [], d => rfl
  | t :: ts, d => by rw [List.foldl_cons, rd_len' ts, List.length_set]
theorem rd_len (ts : List Tm) : (rd ts).length = 8 := rd_len' ts no8
theorem tmsF_no (i : Int) : tmsF no8 i = [] := by
  refine List.eq_nil_iff_forall_not_mem.2 fun t ht => ?_
  obtain ⟨j, a, h1, h2, _⟩ := mem_tmsF.1 ht
  unfold no8 at h1
  rw [List.getElem?_replicate] at h1
  split at h1
  · cases h1; omega
  · cases h1
/-- By processes: what stands in the row is what the list says. -/
theorem rd_neg {ts : List Tm} (h : allRight ts) {p : Nat} (hp : p < 8) : (rd ts).getD p (-1) < 0 ↔ ¬ timed ts (p : Int) := by
  have key : ∀ n, n ≤ ts.length → ((rd (ts.take n)).getD p (-1) < 0 ↔ ¬ timed (ts.take n) (p : Int)) := by
    intro n
    induction n with
    | zero =>
      intro _
      have : (rd (ts.take 0)).getD p (-1) = -1 := by
        show no8.getD p (-1) = -1
        unfold no8
        rw [List.getD_eq_getElem?_getD, List.getElem?_replicate, if_pos hp]; rfl
      rw [this]
      simp [timed]
    | succ n ih =>
      intro hn
      have ih := ih (by omega)
      have hr := h _ (List.getElem_mem (show n < ts.length by omega))
      rw [take_snoc (show n < ts.length by omega), rd_snoc, timed_app', List.getD_eq_getElem?_getD, List.getElem?_set, rd_len]
      by_cases e : ts[n].proc.toNat = p
      · rw [if_pos e, if_pos (by omega)]
        have h1 := hr.1; have h2 := hr.2.2.1
        simp only [Option.getD_some]
        constructor
        · intro g; omega
        · intro g; exact absurd (.inr (by omega)) g
      · rw [if_neg e, ← List.getD_eq_getElem?_getD]
        have h1 := hr.1
        constructor
        · intro g; rintro (g' | g')
          · exact (ih.1 g) g'
          · omega
        · intro g
          exact ih.2 fun g' => g (.inl g')
  have := key ts.length (Nat.le_refl _)
  rwa [take_all (Nat.le_refl _)] at this
where
  timed_app' {l : List Tm} {a : Tm} {n : Int} : timed (l ++ [a]) n ↔ (timed l n ∨ n = a.proc) := by
    unfold timed; rw [List.map_append, List.mem_append]; simp
theorem rd_perm {ts : List Tm} (h : allRight ts) (hn : (ts.map Tm.proc).Nodup) : (tmsF (rd ts) 0).Perm ts := by
  have key : ∀ n, n ≤ ts.length → (tmsF (rd (ts.take n)) 0).Perm (ts.take n) := by
    intro n
    induction n with
    | zero => intro _; exact (tmsF_no 0) ▸ .refl _
    | succ n ih =>
      intro hn'
      have ih := ih (by omega)
      have hlt : n < ts.length := by omega
      have hr := h _ (List.getElem_mem hlt)
      have h1 := hr.1; have h2 := hr.2.1; have h3 := hr.2.2.1
      have hp : ts[n].proc.toNat < 8 := by omega
      have hnt : ¬ timed (ts.take n) (ts[n].proc.toNat : Int) := by
        rw [Int.toNat_of_nonneg h1]
        have : (ts.map Tm.proc).take (n + 1) = (ts.take n).map Tm.proc ++ [ts[n].proc] := by
          rw [take_snoc (by simpa using hlt)]; simp
        have hn2 : ((ts.map Tm.proc).take (n + 1)).Nodup := hn.sublist (List.take_sublist _ _)
        rw [this, List.nodup_append] at hn2
        exact fun g => hn2.2.2 _ g _ (by simp) rfl
      have hneg := (rd_neg (ts := ts.take n) (fun t ht => h t (List.mem_of_mem_take ht)) hp).2 hnt
      have hlen := rd_len (ts.take n)
      rw [take_snoc hlt, rd_snoc]
      refine (tmsF_set h3 (by omega)).trans ?_
      have e1 : (tmsF ((rd (ts.take n)).set ts[n].proc.toNat (-1)) 0) = tmsF (rd (ts.take n)) 0 := by
        rw [tmsF_drop (by omega)]
        refine List.filter_eq_self.2 fun t ht => ?_
        obtain ⟨j, a, g1, g2, rfl⟩ := mem_tmsF.1 ht
        simp only [Int.zero_add, ne_eq, decide_not, Bool.not_eq_true', decide_eq_false_iff_not]
        intro e
        have e : j = ts[n].proc.toNat := by omega
        subst e
        rw [List.getD_eq_getElem?_getD, g1] at hneg
        simp at hneg
        omega
      rw [e1]
      have e2 : (⟨(0 : Int) + (ts[n].proc.toNat : Nat), ts[n].due⟩ : Tm) = ts[n] := by
        rw [Int.zero_add, Int.toNat_of_nonneg h1]
      rw [e2]
      exact (ih.cons _).trans (List.perm_append_comm (l₁ := [ts[n]]))
  have := key ts.length (Nat.le_refl _)
  rwa [take_all (Nat.le_refl _)] at this
theorem lst_rd {ts : List Tm} (h : allRight ts) (hn : (ts.map Tm.proc).Nodup) : lst (rd ts) = isort ts :=
  lst_eq (isort_sorted ts [] (by simpa using hn) .nil) ((rd_perm h hn).trans (isort_perm ts).symm)
theorem lst_rd_ok {ts : List Tm} (h : TsOk 8 ts) : lst (rd ts) = ts := lst_eq h.pairwise (rd_perm h.mem h.nodup)
theorem TsOk_iff_rd {ts : List Tm} (h : allRight ts) (hn : (ts.map Tm.proc).Nodup) : lst (rd ts) = ts ↔ TsOk 8 ts := by
  constructor
  · intro e
    rw [TsOk_iff]
    exact ⟨h, hn, e ▸ lst_sorted _⟩
  · exact lst_rd_ok
theorem wo_ne (ts : List Tm) (p : Int) : ts.filter (·.proc ≠ p) = wo ts p := by
  unfold wo
  exact List.filter_congr fun a _ => by simp
theorem lst_set {ts : List Tm} (h : TsOk 8 ts) {p d : Int} (hr : right 8 ⟨p, d⟩) : lst ((rd ts).set p.toNat d) = setT ts p d := by
  have h1 : 0 ≤ p := hr.1; have h2 : p < 8 := hr.2.1; have h3 : 0 ≤ d := hr.2.2.1
  have hlen := rd_len ts
  have hrp := rd_perm h.mem h.nodup
  refine lst_eq (setT_sorted h hr) ((tmsF_set h3 (by omega)).trans ?_)
  rw [tmsF_drop (by omega), Int.zero_add, Int.toNat_of_nonneg h1]
  refine ((hrp.filter _).cons _).trans ?_
  rw [wo_ne]
  exact (List.perm_append_comm (l₁ := [(⟨p, d⟩ : Tm)])).trans (isort_perm _).symm
where
  setT_sorted {ts : List Tm} (h : TsOk 8 ts) {p d : Int} (hr : right 8 ⟨p, d⟩) : (setT ts p d).Pairwise before := by
    refine isort_sorted _ [] ?_ .nil
    rw [List.nil_append, List.map_append, List.nodup_append]
    refine ⟨(h.filter _).nodup, by simp, fun a ha b hb => ?_⟩
    simp only [List.map_cons, List.map_nil, List.mem_singleton] at hb
    subst hb
    obtain ⟨x, hx, rfl⟩ := List.mem_map.1 ha
    have := (List.mem_filter.1 hx).2
    simpa using this
theorem lst_drop {ts : List Tm} (h : TsOk 8 ts) {p : Int} (h1 : 0 ≤ p) (h2 : p < 8) : lst ((rd ts).set p.toNat (-1)) = wo ts p := by
  have hlen := rd_len ts
  refine lst_eq (h.filter _).pairwise ?_
  rw [tmsF_drop (by omega), Int.zero_add, Int.toNat_of_nonneg h1, wo_ne]
  have := (rd_perm h.mem h.nodup).filter (fun a => !decide (a.proc = p))
  exact this
/-- Shifted in place. -/
def shD (k a : Int) : Int := if 0 ≤ a then (if 0 > a - k then 0 else a - k) else a
theorem tmsF_map (k : Int) : ∀ (d : List Int) (i : Int), tmsF (d.map (shD k)) i = (tmsF d i).map (shT k)
  | [], i => rfl
  | a :: d, i => by
    rw [List.map_cons, tmsF, tmsF, tmsF_map k d (i + 1), List.map_append]
    congr 1
    by_cases h : 0 ≤ a
    · have e : shD k a = if 0 > a - k then 0 else a - k := if_pos h
      have : 0 ≤ shD k a := by rw [e]; split <;> omega
      rw [if_pos h, if_pos this, e]
      rfl
    · have e : shD k a = a := if_neg h
      rw [if_neg h, e, if_neg h]
      rfl
theorem lst_shift {ts : List Tm} (h : TsOk 8 ts) (k : Int) : lst ((rd ts).map (shD k)) = shiftT ts k := by
  refine lst_eq ?_ ?_
  · refine isort_sorted _ [] ?_ .nil
    rw [List.nil_append, shT_procs]
    exact h.nodup
  · rw [tmsF_map]
    exact ((rd_perm h.mem h.nodup).map _).trans (isort_perm _).symm
end Go.Fv.Tr
