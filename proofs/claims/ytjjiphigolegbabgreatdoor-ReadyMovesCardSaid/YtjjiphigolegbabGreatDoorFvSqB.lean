/-
  What the document's functions of the layer 9 answer: WakeAll, Fire. By an AI agent; no person has read it.
-/
import Derived.Test.YtjjiphigolegbabGreatDoorFvSqA
set_option linter.unusedVariables false
set_option linter.unusedSimpArgs false
set_option linter.unusedSectionVars false
/-! What the document's functions of the layer 9 answer: WakeAll, Fire. -/
namespace Go.Fv.Tr
open Go Go.Fv Go.Fv.Pl Go.Proofs
set_option linter.unusedSimpArgs false
set_option linter.unusedVariables false
variable {G : Nat → Option (List V)}

/-- A table in memory: of one's own, or shown. -/
def ShT (H : Heap) (a b c : V) (u : Tab) : Prop := OwnTab H a b c u ∨ IsTab a b c u
theorem mapM_eq {ok : Bool} {H H' : Heap} (hb : ∀ l, H'.blk l = H.blk l) (v : V) : thaw ok H' v = thaw ok H v := by
  unfold thaw
  cases v <;> simp only [hb]
theorem thaw2_eq {ok : Bool} {H H' : Heap} (hb : ∀ l, H'.blk l = H.blk l) (v : V) : thaw2 ok H' v = thaw2 ok H v := by
  have : (thaw ok H' : V → Option V) = thaw ok H := funext fun v => mapM_eq hb v
  unfold thaw2
  rw [this]
/-- What it reads as, seen through any part of the heap that holds it. -/
theorem ShT.thaw {H K : Heap} {a b c : V} {u : Tab} (h : ShT H a b c u) (hw : ∀ p ∈ u.ps, Wp p) (hb : TabOk u) (hK : ∀ k B, H.blk k = some B → k < H.next → K.blk k = some B) :
    ∃ a' b' c', thaw2 true K (.agg [a, b, c]) = some (.agg [a', b', c']) ∧ IsTab a' b' c' u := by
  rcases h with h | h
  · have one : ∀ {v : V} {sz : Nat} {rows : List (List V)}, Own H v sz rows → Own ⟨K.blk, H.next, H.floor⟩ v sz rows := fun {v sz rows} o => by
      rcases o with o | ⟨l, n, c, ex, b, rfl, h1, h2, h3, h4⟩
      · exact .inl o
      · exact .inr ⟨l, n, c, ex, b, rfl, hK _ _ h1 h3, h2, h3, h4⟩
    obtain ⟨a', b', c', q1, q2⟩ := thaw2_tab (H := ⟨K.blk, H.next, H.floor⟩) ⟨one h.p, one h.q, one h.s, h.pq, h.ps, h.qs⟩ hw hb true
    exact ⟨a', b', c', (thaw2_eq (H := ⟨K.blk, H.next, H.floor⟩) (H' := K) (fun _ => rfl) _).trans q1, q2⟩
  · refine ⟨a, b, c, ?_, h⟩
    have e : [a, b, c].mapM (Fv.thaw true K) = some [a, b, c] := by
      have t1 : ∀ {x : V} {sz : Nat} {rows : List (List V)}, Sls x sz rows → Fv.thaw true K x = some x := fun {x sz rows} h => by
        rcases h with rfl | ⟨_, rfl | rfl⟩ <;> simp [Fv.thaw, V.flat, V.closed]
      simp [t1 h.p, t1 h.q, t1 h.s]
    simp only [thaw2, e]; rfl
theorem Run.qans {C : Cfg} {call : FuncId → List V → M V} {f : FuncId} {args bs : List V} {P : V → Prop} {H : Heap} {v : Nat → Bool} {Q : V → Heap → Prop} (hk : C.kind f = .pure)
    (ha : args.mapM (thawV true ⟨fun l => if v l then H.blk l else none, H.next, H.next⟩) = some bs) (h : Says C call f bs P) (q : ∀ r, P r → Q r (H.q v)) : Run (qrun v (callV C call f args)) H Q :=
  Run.qrunI (Run.ans hk ha h fun r hr => q r hr)
theorem idx_or {H : Heap} {c : V} {sz i : Nat} {rows : List (List V)} (h : Own H c sz rows ∨ Sls c sz rows) (hi : i < rows.length) :
    ∃ P, idxV sz c (.int .i64 (i : Int)) = some P ∧ ∀ o v, rows[i][o]? = some v → ∃ P', padd o P = some P' ∧ ∀ Q : V → Heap → Prop, Run (load1 P') H Q ↔ Q v H := by
  rcases h with h | h
  · obtain ⟨l, b, _, e, hb, hr, _⟩ := h.idx (k := .i64) hi
    refine ⟨_, e, fun o v hv => ⟨_, padd_ptr, fun Q => ?_⟩⟩
    rw [Run.load1p]
    constructor
    · rintro ⟨b', h1, row, h2, w, h3, q⟩
      rw [hb] at h1; cases h1
      rw [hr] at h2; cases h2
      rw [Nat.zero_add, hv] at h3; cases h3
      exact q
    · exact fun q => ⟨b, hb, _, hr, v, by rw [Nat.zero_add]; exact hv, q⟩
  · refine ⟨_, h.idx hi, fun o v hv => ⟨_, padd_iptr, fun Q => ?_⟩⟩
    rw [Run.load1i]
    constructor
    · rintro ⟨w, h3, q⟩
      rw [Nat.zero_add, hv] at h3; cases h3
      exact q
    · exact fun q => ⟨v, by rw [Nat.zero_add]; exact hv, q⟩
theorem len_or {H : Heap} {c : V} {sz : Nat} {rows : List (List V)} (h : Own H c sz rows ∨ Sls c sz rows) : lenV c = some (.int .i64 (rows.length : Int)) := h.elim Own.len Sls.len
theorem ShT.p {H : Heap} {a b c : V} {u : Tab} (h : ShT H a b c u) : Own H a 21 (u.ps.map prRow) ∨ Sls a 21 (u.ps.map prRow) := h.imp (·.p) (·.p)
theorem ShT.s {H : Heap} {a b c : V} {u : Tab} (h : ShT H a b c u) : Own H c 2 (u.ts.map tmRow) ∨ Sls c 2 (u.ts.map tmRow) := h.imp (·.s) (·.s)
theorem ShT.frame {H H' : Heap} {a b c : V} {u : Tab} {p : Nat → Prop} (h : ShT H a b c u) (f : Frame H H' p) (hp : OwnTab H a b c u → ∀ l, loc a = some l ∨ loc b = some l ∨ loc c = some l → ¬ p l) : ShT H' a b c u := h.imp (fun g => g.frame f (hp g)) id
theorem sls_loc {x : V} {sz : Nat} {rows : List (List V)} (h : Sls x sz rows) : loc x = none := by
  rcases h with rfl | ⟨_, rfl | rfl⟩ <;> rfl
theorem is_loc {a b c : V} {u : Tab} (h : IsTab a b c u) (k : Nat) : ¬ (loc a = some k ∨ loc b = some k ∨ loc c = some k) := by
  rw [sls_loc h.p, sls_loc h.q, sls_loc h.s]; simp

/-- The document's table on its way. -/
structure InS (H : Heap) (lt : Nat) (u : Tab) : Prop where
  fl : H.floor = 0
  b1 : H.blk 1 = some ⟨3, [[.nils, .nils, .nils]]⟩
  l2 : 2 ≤ lt
  ln : lt < H.next
  tab : ∃ a b c, H.blk lt = some ⟨3, [[a, b, c]]⟩ ∧ ShT H a b c u ∧ ∀ k, (loc a = some k ∨ loc b = some k ∨ loc c = some k) → 2 ≤ k ∧ k ≠ lt ∧ k < H.next
  wp : ∀ p ∈ u.ps, Wp p
theorem InS.of {H : Heap} {lt : Nat} {u : Tab} (h : InT H lt u) : InS H lt u := by
  obtain ⟨a, b, c, h1, h2, h3⟩ := h.tab
  exact ⟨h.fl, h.b1, h.l2, h.ln, ⟨a, b, c, h1, .inl h2, fun k hk => ⟨(h3 k hk).1, (h3 k hk).2, h2.lt hk⟩⟩, h.wp⟩
theorem InS.frame {H H' : Heap} {lt : Nat} {u : Tab} {p : Nat → Prop} (h : InS H lt u) (f : Frame H H' p) (h1 : ¬ p 1) (h2 : ¬ p lt) (h3 : ∀ a b c, H.blk lt = some ⟨3, [[a, b, c]]⟩ → ∀ k, (loc a = some k ∨ loc b = some k ∨ loc c = some k) → ¬ p k) : InS H' lt u := by
  obtain ⟨a, b, c, g1, g2, g3⟩ := h.tab
  have := h.l2
  have := h.ln
  exact ⟨f.floor.trans h.fl, (f.old 1 (by omega) h1).trans h.b1, h.l2, Nat.lt_of_lt_of_le h.ln f.next, ⟨a, b, c, (f.old lt h.ln h2).trans g1, g2.frame f fun _ => h3 a b c g1, fun k hk => ⟨(g3 k hk).1, (g3 k hk).2.1, Nat.lt_of_lt_of_le (g3 k hk).2.2 f.next⟩⟩, h.wp⟩
theorem InS.put {H : Heap} {lt : Nat} {u u' : Tab} {a b c : V} (h : InS H lt u) (ht : IsTab a b c u') (hw : ∀ p ∈ u'.ps, Wp p) : InS (H.set lt ⟨3, [[a, b, c]]⟩) lt u' := by
  have := h.l2
  exact ⟨h.fl, by rw [Heap.set_blk, if_neg (by omega)]; exact h.b1, h.l2, h.ln, ⟨a, b, c, by rw [Heap.set_blk, if_pos rfl], .inr ht, fun k hk => absurd hk (is_loc ht k)⟩, hw⟩

def RAns2 (t : Tab) (u : Tab) (r : V) : Prop := (TabOk t ∧ ∃ a b c, r = .tuple [.agg [a, b, c], i64 0] ∧ IsTab a b c u) ∨ (¬ TabOk t ∧ r = .tuple [.agg [.nils, .nils, .nils], i64 9])
end Go.Fv.Tr
