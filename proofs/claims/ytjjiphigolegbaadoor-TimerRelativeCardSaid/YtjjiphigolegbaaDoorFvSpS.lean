/-
  The law TimerRelative, run to its end. By an AI agent; no person has read it.
-/
import Derived.Test.YtjjiphigolegbaaDoorFvSpR
set_option linter.unusedVariables false
set_option linter.unusedSimpArgs false
set_option linter.unusedSectionVars false
/-! The law TimerRelative, run to its end. -/
namespace Go.Fv.Tr
open Go Go.Fv Go.Fv.Pl Go.Proofs
set_option linter.unusedSimpArgs false
set_option linter.unusedVariables false
variable {G : Nat → Option (List V)}

theorem shift_eq (hG : TErrs G) (n : Nat) {x : V} {ts : List Tm} (hx : Sls x 2 (ts.map tmRow)) (hok : TsOk 8 ts) {k : Int} (hk : 1 ≤ k ∧ k ≤ 10000) :
    ∃ y, callV (cfg G) (sem (cfg G) (n + 7)) 62 [x, .int .i64 k] = M.ret (.tuple [y, .nili]) ∧ Sls y 2 ((shiftT ts k).map tmRow) := by
  have h8 := ts_len8 hok
  obtain ⟨r, e, h⟩ := (shift_spec hG n hx (by unfold big; omega) k).eq rfl (by simp [hx.closedV, cI])
  rcases h with ⟨_, _, y, rfl, h1⟩ | ⟨_, h, _⟩ | ⟨h, _⟩
  · exact ⟨y, e, h1⟩
  · exact absurd hk h
  · exact absurd hok h

/-! ### Eight numbers -/
def nums (f : Nat → Int) : List V := (List.range 8).map fun j => .int .i64 (f j)
theorem nums_get (f : Nat → Int) {n : Nat} (h : n < 8) : (nums f)[n]? = some (.int .i64 (f n)) := by simp [nums, h]
theorem nums_len (f : Nat → Int) : (nums f).length = 8 := by simp [nums]
theorem nums_put (f : Nat → Int) (v : Int) {n : Nat} (h : n < 8) : (nums f).take n ++ [.int .i64 v] ++ (nums f).drop (n + 1) = nums fun j => if j = n then v else f j := by
  refine List.ext_getElem? fun j => ?_
  by_cases hj : j < n
  · rw [List.append_assoc, List.getElem?_append_left (by simp [nums_len]; omega), List.getElem?_take_of_lt hj, nums_get _ (by omega), nums_get _ (by omega)]
    simp [show j ≠ n by omega]
  · by_cases e : j = n
    · subst e
      rw [List.getElem?_append_left (by simp [nums_len]; omega), List.getElem?_append_right (by rw [List.length_take]; omega), nums_get _ h]
      simp [nums_len, Nat.min_eq_left (Nat.le_of_lt h)]
    · rw [List.getElem?_append_right (by simp [nums_len]; omega), List.getElem?_drop]
      have e1 : ((nums f).take n ++ [V.int .i64 v]).length = n + 1 := by simp [nums_len]; omega
      rw [e1, show n + 1 + (j - (n + 1)) = j by omega]
      by_cases h8 : j < 8
      · rw [nums_get _ h8, nums_get _ h8]; simp [e]
      · rw [List.getElem?_eq_none (by simp [nums_len]; omega), List.getElem?_eq_none (by simp [nums_len]; omega)]
theorem nums_none : ([.int .i64 0, .int .i64 0, .int .i64 0, .int .i64 0, .int .i64 0, .int .i64 0, .int .i64 0, .int .i64 0] : List V) = nums fun _ => 0 := rfl
theorem nums_eq0 {c : Bool} : eqV (.agg [.int, .int, .int, .int, .int, .int, .int, .int]) c (.agg (nums fun _ => 0)) (.agg (nums fun _ => 0)) = some true := rfl
theorem and7 {p : Int} (h0 : 0 ≤ p) (h : p < 8) : arithV .and (.int .i64 p) (.int .i64 7) = some (.int .i64 p) := by
  have hc : p = 0 ∨ p = 1 ∨ p = 2 ∨ p = 3 ∨ p = 4 ∨ p = 5 ∨ p = 6 ∨ p = 7 := by omega
  rcases hc with rfl | rfl | rfl | rfl | rfl | rfl | rfl | rfl <;> rfl

/-! ### The plain law -/
theorem dues_shift {ts : List Tm} {k now : Int} (hk : 1 ≤ k) (hn : 0 ≤ now) : (dues (shiftT ts k) now).Perm (dues ts (now + k)) := by
  have h1 : (dues (shiftT ts k) now).Perm (dues (ts.map (shT k)) now) := ((isort_perm _).filter _).map _
  have e : dues (ts.map (shT k)) now = dues ts (now + k) := by
    unfold dues
    rw [List.filter_map, List.map_map]
    have : (ts.filter ((fun t : Tm => decide (t.due ≤ now)) ∘ shT k)) = ts.filter (fun t => decide (t.due ≤ now + k)) := List.filter_congr fun t _ => by
      simp only [Function.comp, shT]
      refine decide_eq_decide.2 ?_
      split <;> omega
    rw [this]; rfl
  rw [← e]; exact h1
theorem dues_map {ts : List Tm} {k now : Int} (hk : 1 ≤ k) (hn : 0 ≤ now) : dues (ts.map (shT k)) now = dues ts (now + k) := by
  unfold dues
  rw [List.filter_map, List.map_map]
  have : (ts.filter ((fun t : Tm => decide (t.due ≤ now)) ∘ shT k)) = ts.filter (fun t => decide (t.due ≤ now + k)) := List.filter_congr fun t _ => by
    simp only [Function.comp, shT]
    refine decide_eq_decide.2 ?_
    split <;> omega
  rw [this]; rfl
theorem shiftT_same {ts : List Tm} (h : TsOk 8 ts) {k : Int} (hk : 1 ≤ k) (h0 : ∀ t ∈ ts, k ≤ t.due) : shiftT ts k = ts.map (shT k) := by
  refine sorted_eq (shiftT_ok h (by omega)).pairwise ?_ (isort_perm _)
  rw [List.pairwise_map]
  refine h.pairwise.imp_of_mem fun {a b} ha hb hab => ?_
  have := h0 a ha
  have := h0 b hb
  unfold before at hab ⊢
  simp only [shT]
  split <;> split <;> omega
theorem dues_range {ts : List Tm} (h : TsOk 8 ts) (now : Int) : ∀ n ∈ dues ts now, 0 ≤ n ∧ n < 8 := by
  intro n hn
  obtain ⟨t, ht, rfl⟩ := List.mem_map.1 hn
  have := h.mem t (List.mem_filter.1 ht).1
  exact ⟨this.1, this.2.1⟩
theorem first_le {ts : List Tm} (h : TsOk 8 ts) {t0 : Tm} (h0 : ts[0]? = some t0) : ∀ t ∈ ts, t0.due ≤ t.due := by
  cases ts with
  | nil => cases h0
  | cons a l =>
    cases h0
    intro t ht
    rcases List.mem_cons.1 ht with rfl | ht
    · exact Int.le_refl _
    · have := (List.pairwise_cons.1 h.pairwise).1 t ht
      unfold before at this; omega

def cntD (a b : List Int) (i j : Nat) : Int := ((a.take i).count (j : Int) : Int) - ((b.take i).count (j : Int) : Int)
theorem cnt_snoc (a : List Int) {i : Nat} (h : i < a.length) (j : Nat) (h0 : 0 ≤ a[i]) : ((a.take (i + 1)).count (j : Int) : Int) = ((a.take i).count (j : Int) : Int) + if j = a[i].toNat then 1 else 0 := by
  rw [take_snoc h, List.count_append, List.count_singleton]
  have : (a[i] == (j : Int)) = decide (j = a[i].toNat) := by
    rw [Bool.eq_iff_iff, beq_iff_eq, decide_eq_true_eq]; omega
  rw [this]
  by_cases e : j = a[i].toNat <;> simp [e]
theorem cntD_next {a b : List Int} {i : Nat} (ha : i < a.length) (hb : i < b.length) (h0 : 0 ≤ a[i]) (h1 : 0 ≤ b[i]) :
    (fun j => if j = b[i].toNat then (if b[i].toNat = a[i].toNat then cntD a b i a[i].toNat + 1 else cntD a b i b[i].toNat) - 1 else if j = a[i].toNat then cntD a b i a[i].toNat + 1 else cntD a b i j) = cntD a b (i + 1) := by
  funext j
  unfold cntD
  rw [cnt_snoc a ha j h0, cnt_snoc b hb j h1]
  by_cases e1 : j = b[i].toNat
  · rw [if_pos e1, if_pos e1]
    by_cases e2 : b[i].toNat = a[i].toNat
    · rw [if_pos e2, if_pos (e1.trans e2), ← e2, ← e1]; omega
    · rw [if_neg e2, if_neg (fun e => e2 (e1.symm.trans e)), ← e1]; omega
  · rw [if_neg e1, if_neg e1]
    by_cases e2 : j = a[i].toNat
    · rw [if_pos e2, if_pos e2, ← e2]; omega
    · rw [if_neg e2, if_neg e2]; omega
theorem cntD_le {a b : List Int} (ha : a.length ≤ 8) (hb : b.length ≤ 8) (i j : Nat) : -8 ≤ cntD a b i j ∧ cntD a b i j ≤ 8 := by
  unfold cntD
  have h1 := List.count_le_length (a := (j : Int)) (l := a.take i)
  have h2 := List.count_le_length (a := (j : Int)) (l := b.take i)
  rw [List.length_take] at h1 h2
  omega
theorem cntD_end {a b : List Int} (h : a.Perm b) {i : Nat} (ha : a.length ≤ i) : cntD a b i = fun _ => 0 := by
  funext j
  unfold cntD
  rw [take_all ha, take_all (by rw [← h.length_eq]; exact ha), h.count_eq]; omega
end Go.Fv.Tr
