/-
  Rows of cells, flat. By an AI agent; no person has read it.
-/
import Derived.Test.YtjjiphigolegbaaDoorFvRel
set_option linter.unusedVariables false
set_option linter.unusedSimpArgs false
set_option linter.unusedSectionVars false
/-! Rows of cells, flat. -/
namespace Go.Fv
open Go

theorem flatten_get {α : Type} {sz : Nat} : ∀ (rows : List (List α)), (∀ r ∈ rows, r.length = sz) → ∀ (i j : Nat), j < sz → rows.flatten[i * sz + j]? = (rows[i]?).bind fun r => r[j]?
  | [], _, i, j, _ => by simp
  | r :: rows, h, 0, j, hj => by
    have hr := h r (by simp)
    simp [List.getElem?_append, hr, hj]
  | r :: rows, h, i + 1, j, hj => by
    have hr := h r (by simp)
    have ih := flatten_get rows (fun r hr => h r (by simp [hr])) i j hj
    rw [List.flatten_cons, List.getElem?_append_right (by rw [hr, Nat.succ_mul]; omega), hr, show (i + 1) * sz + j - sz = i * sz + j by rw [Nat.succ_mul]; omega, ih]
    simp

theorem flatten_length {α : Type} {sz : Nat} : ∀ (rows : List (List α)), (∀ r ∈ rows, r.length = sz) → rows.flatten.length = rows.length * sz
  | [], _ => by simp
  | r :: rows, h => by
    have ih := flatten_length rows (fun r hr => h r (by simp [hr]))
    rw [List.flatten_cons, List.length_append, ih, h r (by simp), List.length_cons, Nat.succ_mul]; omega

theorem flatten_take {α : Type} {sz : Nat} : ∀ (rows : List (List α)), (∀ r ∈ rows, r.length = sz) → ∀ k, (rows.take k).flatten = rows.flatten.take (k * sz)
  | _, _, 0 => by simp
  | [], _, k + 1 => by simp
  | r :: rows, h, k + 1 => by
    have ih := flatten_take rows (fun r hr => h r (by simp [hr])) k
    have hr := h r (by simp)
    rw [List.take_succ_cons, List.flatten_cons, List.flatten_cons, ih, List.take_append, hr, show (k + 1) * sz - sz = k * sz by rw [Nat.succ_mul]; omega, List.take_of_length_le (l := r) (by rw [hr, Nat.succ_mul]; omega)]

theorem flatten_drop {α : Type} {sz : Nat} : ∀ (rows : List (List α)), (∀ r ∈ rows, r.length = sz) → ∀ k, (rows.drop k).flatten = rows.flatten.drop (k * sz)
  | _, _, 0 => by simp
  | [], _, k + 1 => by simp
  | r :: rows, h, k + 1 => by
    have ih := flatten_drop rows (fun r hr => h r (by simp [hr])) k
    have hr := h r (by simp)
    rw [List.drop_succ_cons, List.flatten_cons, ih, List.drop_append, hr, show (k + 1) * sz - sz = k * sz by rw [Nat.succ_mul]; omega, List.drop_of_length_le (l := r) (by rw [hr, Nat.succ_mul]; omega), List.nil_append]

theorem flatten_set {α : Type} {sz : Nat} : ∀ (rows : List (List α)), (∀ r ∈ rows, r.length = sz) → ∀ (i : Nat) (r' : List α), i < rows.length →
    (rows.set i r').flatten = rows.flatten.take (i * sz) ++ r' ++ rows.flatten.drop (i * sz + sz)
  | [], _, i, r', hi => by simp at hi
  | r :: rows, h, 0, r', _ => by
    have hr := h r (by simp)
    simp [List.drop_append, hr, List.drop_of_length_le (l := r) (i := sz) (by omega)]
  | r :: rows, h, i + 1, r', hi => by
    have hr := h r (by simp)
    have ih := flatten_set rows (fun r hr => h r (by simp [hr])) i r' (by simpa using hi)
    rw [List.set_cons_succ, List.flatten_cons, ih, List.flatten_cons, List.take_append, List.drop_append, hr,
      List.take_of_length_le (l := r) (by rw [hr, Nat.succ_mul]; omega), List.drop_of_length_le (l := r) (by rw [hr, Nat.succ_mul]; omega),
      show (i + 1) * sz - sz = i * sz by rw [Nat.succ_mul]; omega, show (i + 1) * sz + sz - sz = i * sz + sz by rw [Nat.succ_mul]; omega]
    simp

theorem flatten_splice {α : Type} {sz : Nat} (rows : List (List α)) (hs : ∀ r ∈ rows, r.length = sz) (i o : Nat) (r cs : List α) (hr : rows[i]? = some r) (hle : o + cs.length ≤ r.length) :
    (rows.set i (r.take o ++ cs ++ r.drop (o + cs.length))).flatten = rows.flatten.take (i * sz + o) ++ cs ++ rows.flatten.drop (i * sz + o + cs.length) := by
  have hi : i < rows.length := (List.getElem?_eq_some_iff.1 hr).1
  have hrl := hs r (List.mem_of_getElem? hr)
  have hfl := flatten_length rows hs
  have hmul : i * sz + sz ≤ rows.length * sz := by
    have : (i + 1) * sz ≤ rows.length * sz := Nat.mul_le_mul_right _ hi
    rwa [Nat.succ_mul] at this
  have h1 := flatten_set rows hs i r hi
  have h2 : rows.set i r = rows := by
    apply List.ext_getElem?
    intro k
    rw [List.getElem?_set]
    by_cases e : i = k
    · subst e; rw [if_pos rfl, if_pos hi]; exact hr.symm
    · rw [if_neg e]
  rw [h2] at h1
  rw [flatten_set rows hs i _ hi]
  have hA : (rows.flatten.take (i * sz)).length = i * sz := by rw [List.length_take]; omega
  generalize hAe : rows.flatten.take (i * sz) = A at *
  generalize hBe : rows.flatten.drop (i * sz + sz) = B at *
  have t1 : (A ++ r ++ B).take (i * sz + o) = A ++ r.take o := by
    rw [List.append_assoc, List.take_append, hA, show i * sz + o - i * sz = o by omega, List.take_of_length_le (l := A) (by omega), List.take_append, show o - r.length = 0 by omega]
    simp
  have t2 : (A ++ r ++ B).drop (i * sz + o + cs.length) = r.drop (o + cs.length) ++ B := by
    rw [List.append_assoc, List.drop_append, hA, show i * sz + o + cs.length - i * sz = o + cs.length by omega, List.drop_of_length_le (l := A) (by omega), List.drop_append, show o + cs.length - r.length = 0 by omega]
    simp
  rw [h1, t1, t2]
  simp

/-- The list l lies in the cells f from base on. -/
def CellsAt (σ : Nat → Addr) (K : Ctx) (w : World) (f : Nat → Option Value) (base : Nat) (l : List V) : Prop :=
  ∀ (j : Nat) c, l[j]? = some c → c.isCell = true ∧ ∃ x, f (base + j) = some x ∧ Rel σ K w c x

section
variable {σ : Nat → Addr} {K : Ctx} {w : World} {f g : Nat → Option Value} {base : Nat} {l l' : List V}

theorem CellsAt.nil : CellsAt σ K w f base [] := fun j c h => by simp at h
theorem CellsAt.take (h : CellsAt σ K w f base l) (k : Nat) : CellsAt σ K w f base (l.take k) := fun j c hj => by
  rw [List.getElem?_take] at hj
  split at hj
  · exact h j c hj
  · cases hj
theorem CellsAt.drop (h : CellsAt σ K w f base l) (k : Nat) : CellsAt σ K w f (base + k) (l.drop k) := fun j c hj => by
  rw [List.getElem?_drop] at hj
  rw [Nat.add_assoc]
  exact h _ c hj
theorem CellsAt.append (h : CellsAt σ K w f base l) (h' : CellsAt σ K w f (base + l.length) l') : CellsAt σ K w f base (l ++ l') := fun j c hj => by
  by_cases hlt : j < l.length
  · rw [List.getElem?_append_left hlt] at hj
    exact h j c hj
  · rw [List.getElem?_append_right (by omega)] at hj
    have := h' _ c hj
    rwa [show base + l.length + (j - l.length) = base + j by omega] at this
theorem CellsAt.congr (h : CellsAt σ K w f base l) (hfg : ∀ j, j < l.length → g (base + j) = f (base + j)) : CellsAt σ K w g base l := fun j c hj => by
  have hlt : j < l.length := (List.getElem?_eq_some_iff.1 hj).1
  rw [hfg j hlt]
  exact h j c hj
theorem CellsAt.cell (h : CellsAt σ K w f base l) : ∀ c ∈ l, c.isCell = true := fun c hc => by
  obtain ⟨j, hj⟩ := List.getElem?_of_mem hc
  exact (h j c hj).1
theorem CellsAt.mono {K' : Ctx} {w' : World} (h : CellsAt σ K w f base l) (m : Moves K K' w w') : CellsAt σ K' w' f base l := fun j c hj => by
  obtain ⟨h1, x, h2, h3⟩ := h j c hj
  exact ⟨h1, x, h2, h3.mono m⟩

theorem rows_flat {sz : Nat} {rows : List (List V)} (hs : ∀ r ∈ rows, r.length = sz) :
    (∀ (i : Nat) r (j : Nat) c, rows[i]? = some r → r[j]? = some c → c.isCell = true ∧ ∃ x, f (base + i * sz + j) = some x ∧ Rel σ K w c x) ↔ CellsAt σ K w f base rows.flatten := by
  constructor
  · intro h k c hk
    have hlt : k < rows.flatten.length := (List.getElem?_eq_some_iff.1 hk).1
    rw [flatten_length rows hs] at hlt
    have hsz : 0 < sz := by
      rcases Nat.eq_zero_or_pos sz with e | e
      · rw [e] at hlt; simp at hlt
      · exact e
    have e : k / sz * sz + k % sz = k := Nat.div_add_mod' k sz
    have := flatten_get rows hs (k / sz) (k % sz) (Nat.mod_lt _ hsz)
    rw [e, hk] at this
    cases hr : rows[k / sz]? with
    | none => rw [hr] at this; cases this
    | some r =>
      rw [hr] at this
      have hh := h (k / sz) r (k % sz) c hr this.symm
      rwa [Nat.add_assoc, e] at hh
  · intro h i r j c hi hj
    have hr := hs r (List.mem_of_getElem? hi)
    have hlt : j < sz := by rw [← hr]; exact (List.getElem?_eq_some_iff.1 hj).1
    have := h (i * sz + j) c (by rw [flatten_get rows hs i j hlt, hi]; exact hj)
    rwa [← Nat.add_assoc] at this

/-- The values that stand for a list. -/
theorem CellsAt.vals (h : CellsAt σ K w f base l) : ∃ xs : List Value, xs.length = l.length ∧ (∀ (j : Nat) x, xs[j]? = some x → f (base + j) = some x) ∧
    (∀ (j : Nat) c x, l[j]? = some c → xs[j]? = some x → Rel σ K w c x) ∧ (∀ x ∈ xs, x.oneCell' = true) := by
  induction l generalizing base with
  | nil => exact ⟨[], rfl, fun j x h => by simp at h, fun j c x h => by simp at h, fun x h => by simp at h⟩
  | cons a l ih =>
    obtain ⟨h1, x, h2, h3⟩ := h 0 a rfl
    have ht : CellsAt σ K w f (base + 1) l := fun j c hj => by
      have := h (j + 1) c (by simpa using hj)
      rwa [show base + (j + 1) = base + 1 + j by omega] at this
    obtain ⟨xs, e1, e2, e3, e4⟩ := ih ht
    refine ⟨x :: xs, by simp [e1], ?_, ?_, ?_⟩
    · intro j y hj
      cases j with
      | zero => simp at hj; subst hj; exact h2
      | succ j => simp at hj; have := e2 j y hj; rwa [show base + 1 + j = base + (j + 1) by omega] at this
    · intro j c y hj hy
      cases j with
      | zero => simp at hj hy; subst hj; subst hy; exact h3
      | succ j => simp at hj hy; exact e3 j c y hj hy
    · intro y hy
      simp at hy
      rcases hy with rfl | hy
      · exact h3.oneCell h1
      · exact e4 y hy
end

theorem splice_get {α : Type} (l vs : List α) (o k : Nat) (h : o + vs.length ≤ l.length) :
    (l.take o ++ vs ++ l.drop (o + vs.length))[k]? = if k < o then l[k]? else if k < o + vs.length then vs[k - o]? else l[k]? := by
  have ht : (l.take o).length = o := by rw [List.length_take]; omega
  by_cases h1 : k < o
  · rw [if_pos h1, List.append_assoc, List.getElem?_append_left (by omega), List.getElem?_take, if_pos h1]
  · rw [if_neg h1]
    by_cases h2 : k < o + vs.length
    · rw [if_pos h2, List.append_assoc, List.getElem?_append_right (by omega), ht, List.getElem?_append_left (by omega)]
    · rw [if_neg h2, List.getElem?_append_right (by simp [ht]; omega), List.getElem?_drop]
      congr 1
      simp [ht]
      omega

section
variable {σ : Nat → Addr} {K : Ctx} {w : World} {base : Nat} {l : List V}

/-- A stretch of a list written over, and the cells likewise. -/
theorem CellsAt.splice {cs : List Value} (h : CellsAt σ K w (fun k => cs[k]?) base l) {new : List V} {vs : List Value} (o : Nat) (hl : o + new.length ≤ l.length) (hlen : vs.length = new.length)
    (hb : base + l.length ≤ cs.length) (hnew : ∀ c ∈ new, c.isCell = true) (hr : ∀ (j : Nat) c x, new[j]? = some c → vs[j]? = some x → Rel σ K w c x) :
    CellsAt σ K w (fun k => (cs.take (base + o) ++ vs ++ cs.drop (base + o + vs.length))[k]?) base (l.take o ++ new ++ l.drop (o + new.length)) := by
  intro j c hj
  rw [splice_get _ _ _ _ hl] at hj
  have hs := splice_get cs vs (base + o) (base + j) (by omega)
  simp only [hs]
  by_cases h1 : j < o
  · rw [if_pos h1] at hj
    rw [if_pos (by omega)]
    exact h j c hj
  · rw [if_neg h1] at hj
    rw [if_neg (by omega)]
    by_cases h2 : j < o + new.length
    · rw [if_pos h2] at hj
      rw [if_pos (by omega), show base + j - (base + o) = j - o by omega]
      have hx : j - o < vs.length := by omega
      exact ⟨hnew c (List.mem_of_getElem? hj), vs[j - o], List.getElem?_eq_getElem hx, hr (j - o) c _ hj (List.getElem?_eq_getElem hx)⟩
    · rw [if_neg h2] at hj
      rw [if_neg (by omega)]
      exact h j c hj
end

theorem BlkAt.flat {σ : Nat → Addr} {K : Ctx} {w : World} {l : Nat} {b : Blk} (h : BlkAt σ K w l b) :
    ∃ cs e, w.heap[(K.ρ l).1]? = some (Obj.cells cs e (0, 0)) ∧ (K.ρ l).2.1 + b.rows.length * b.sz ≤ cs.size ∧ CellsAt σ K w (fun k => cs.toList[k]?) (K.ρ l).2.1 b.rows.flatten := by
  obtain ⟨cs, e, h1, h2, h3⟩ := h.at_
  exact ⟨cs, e, h1, h2, (rows_flat h.rows).1 (by simpa using h3)⟩

/-- A block written over, flat. -/
theorem Inv.writeFlat {σ : Nat → Addr} {K : Ctx} {H : Heap} {w : World} (inv : Inv σ K H w) {l : Nat} {b : Blk} (hb : H.blk l = some b) (hf : H.floor ≤ l)
    {cs : Array Value} {cs' : List Value} {e : TypeId} {rows : List (List V)} (hcs : w.heap[(K.ρ l).1]? = some (Obj.cells cs e (0, 0))) (hsz : cs'.length = cs.size)
    (hs : ∀ r ∈ rows, r.length = b.sz) (hroom : (K.ρ l).2.1 + rows.length * b.sz ≤ cs.size)
    (hc : CellsAt σ K w (fun k => cs'[k]?) (K.ρ l).2.1 rows.flatten) :
    Inv σ K (H.set l ⟨b.sz, rows⟩) (w.setRow (K.ρ l).1 cs'.toArray) ∧ Evo K H w K (H.set l ⟨b.sz, rows⟩) (w.setRow (K.ρ l).1 cs'.toArray) :=
  inv.write hb hf hcs (by simpa using hsz) hs (by simpa [hsz] using hroom) (by have := (rows_flat hs).2 hc; simpa using this)

end Go.Fv
