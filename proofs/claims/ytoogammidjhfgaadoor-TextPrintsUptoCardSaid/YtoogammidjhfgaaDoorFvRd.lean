/-
  Slices that only are read, whoever's memory they show. By an AI agent; no person has read it.
-/
import Derived.Test.YtoogammidjhfgaaDoorFvMem2
set_option linter.unusedVariables false
set_option linter.unusedSimpArgs false
set_option linter.unusedSectionVars false
/-! Slices that only are read, whoever's memory they show. -/
namespace Go.Fv
open Go

section
variable {H H' : Heap} {x : V} {sz : Nat} {rows : List (List V)}

def Rd (H : Heap) (x : V) (sz : Nat) (rows : List (List V)) : Prop :=
  Sls x sz rows ∨ ∃ l s n c ex b, x = .ref l sz s n c ex ∧ H.blk l = some b ∧ l < H.next ∧ s + n ≤ b.rows.length ∧ (b.rows.drop s).take n = rows

theorem Rd.sls (h : Sls x sz rows) : Rd H x sz rows := .inl h
theorem Own.rd (h : Own H x sz rows) : Rd H x sz rows := by
  rcases h with ⟨h, rfl⟩ | ⟨l, n, c, ex, b, rfl, h1, h2, h3, h4, h5, rfl⟩
  · exact .inl (.inr ⟨rfl, h⟩)
  · exact .inr ⟨l, 0, n, c, ex, b, rfl, h1, h3, by omega, rfl⟩
theorem Rd.keep (h : Rd H x sz rows) (hn : H.next ≤ H'.next) (hk : ∀ l, loc x = some l → H'.blk l = H.blk l) : Rd H' x sz rows := by
  rcases h with h | ⟨l, s, n, c, ex, b, rfl, h1, h2, h3, h4⟩
  · exact .inl h
  · exact .inr ⟨l, s, n, c, ex, b, rfl, (hk l rfl).trans h1, Nat.lt_of_lt_of_le h2 hn, h3, h4⟩
theorem Rd.lt (h : Rd H x sz rows) {l : Nat} (hl : loc x = some l) : l < H.next := by
  rcases h with h | ⟨l', s, n, c, ex, b, rfl, h1, h2, h3, h4⟩
  · rcases h with rfl | ⟨_, rfl | rfl⟩ <;> cases hl
  · cases hl; exact h2
theorem Rd.frame (h : Rd H x sz rows) {p : Nat → Prop} (f : Frame H H' p) (hp : ∀ l, loc x = some l → ¬ p l) : Rd H' x sz rows :=
  h.keep f.next fun l hl => f.old l (h.lt hl) (hp l hl)
theorem Rd.len (h : Rd H x sz rows) : lenV x = some (.int .i64 (rows.length : Int)) := by
  rcases h with h | ⟨l, s, n, c, ex, b, rfl, h1, h2, h3, rfl⟩
  · exact h.len
  · have : ((b.rows.drop s).take n).length = n := by rw [List.length_take, List.length_drop]; omega
    rw [this]; rfl
theorem Rd.items (h : Rd H x sz rows) : itemsV sz x H = some rows := by
  rcases h with h | ⟨l, s, n, c, ex, b, rfl, h1, h2, h3, rfl⟩
  · exact h.items H
  · simp [itemsV, h1, h3]
theorem Rd.cells (h : Rd H x sz rows) : x.cells? = some [x] := by
  rcases h with h | ⟨l, s, n, c, ex, b, rfl, _⟩
  · exact h.cells
  · rfl
theorem Rd.cell (h : Rd H x sz rows) : x.isCell = true := by
  rcases h with h | ⟨l, s, n, c, ex, b, rfl, _⟩
  · rcases h with rfl | ⟨_, rfl | rfl⟩ <;> rfl
  · rfl
theorem Rd.notNil (h : Rd H x sz rows) (hr : rows ≠ []) : x ≠ .nils := by
  rcases h with h | ⟨l, s, n, c, ex, b, rfl, _⟩
  · rcases h with rfl | ⟨rfl, _⟩
    · intro e; cases e
    · exact absurd rfl hr
  · intro e; cases e
/-- What a call sees of it. -/
theorem Rd.thaw (h : Rd H x sz rows) (hf : flatRows rows = true) : ∃ y, thaw true H x = some y ∧ thawV true H x = some y ∧ Sls y sz rows := by
  rcases h with h | ⟨l, s, n, c, ex, b, rfl, h1, h2, h3, rfl⟩
  · exact ⟨x, thaw_closed h.closed H, thawV_closed h.closedV H, h⟩
  · refine ⟨.imm sz ((b.rows.drop s).take n), ?_, ?_, Sls.imm _ _⟩ <;> simp [Fv.thawV, Fv.thaw, h1, h3, hf]
/-- One row of it. -/
theorem Rd.idx (h : Rd H x sz rows) {k : IntKind} {i : Nat} (hi : i < rows.length) : ∃ p, idxV sz x (.int k (i : Int)) = some p ∧ placeV p H = some (rows[i], 0) ∧ ∀ o, ∃ q, padd o p = some q ∧ placeV q H = some (rows[i], o) := by
  rcases h with h | ⟨l, s, n, c, ex, b, rfl, h1, h2, h3, rfl⟩
  · exact ⟨_, h.idx hi, rfl, fun o => ⟨.iptr rows[i] (0 + o), rfl, by simp [placeV]⟩⟩
  · have hn : i < n := by rw [List.length_take] at hi; omega
    have hr : b.rows[s + i]? = some ((b.rows.drop s).take n)[i] := by
      rw [List.getElem_take, List.getElem_drop]
      exact List.getElem?_eq_getElem _
    refine ⟨.ptr l (s + i) 0, by simp [idxV, hn], by simp only [placeV, h1, Option.bind_some, hr], fun o => ⟨.ptr l (s + i) (0 + o), rfl, by simp only [placeV, h1, Option.bind_some, hr, Nat.zero_add]⟩⟩
theorem Run.loadAt {p : V} {row : List V} {o : Nat} {v : V} {Q : V → Heap → Prop} (h : placeV p H = some (row, o)) (hv : row[o]? = some v) : Run (load1 p) H Q ↔ Q v H :=
  Run.eq (by simp [load1, h, hv])
theorem Run.loadNAt {p : V} {row : List V} {o n : Nat} {Q : V → Heap → Prop} (h : placeV p H = some (row, o)) (hn : o + n ≤ row.length) : Run (loadN n p) H Q ↔ Q (.agg ((row.drop o).take n)) H :=
  Run.eq (by simp [loadN, h, hn])

/-- A call that only sees its arguments may as well be handed what it sees. -/
theorem callOwn_eq {C : Cfg} {call : FuncId → List V → M V} {f : FuncId} {args bs : List V} (hk : C.kind f = .own) (hm : args.mapM (thawV true H) = some bs) (hb : bs.all V.closedV = true) :
    callV C call f args H = callV C call f bs H := by
  simp only [callV, hk, callP, hm, mapM_closedV hb, Option.bind_some, if_true]
theorem Run.callOwn {C : Cfg} {call : FuncId → List V → M V} {f : FuncId} {args bs : List V} {Q : V → Heap → Prop} (hk : C.kind f = .own) (hm : args.mapM (thawV true H) = some bs) (hb : bs.all V.closedV = true)
    (h : Run (callV C call f bs) H Q) : Run (callV C call f args) H Q := by
  obtain ⟨r, H', e, q⟩ := h
  exact ⟨r, H', (callOwn_eq hk hm hb).trans e, q⟩
end
end Go.Fv
