/-
  Each operation on plain values is the model's operation on what stands for them. By an AI agent; no person has read it.
-/
import Derived.Test.YtjjiphigolegbaaDoorFvCells
set_option linter.unusedVariables false
set_option linter.unusedSimpArgs false
set_option linter.unusedSectionVars false
/-! Each operation on plain values is the model's operation on what stands for them. -/
namespace Go.Fv
open Go

/-- What the operation gives in the world. -/
def Out (P : Program) (σ : Nat → Addr) (K : Ctx) (H : Heap) (w : World) (s : Sem Next) (v : V) (H' : Heap) : Prop :=
  ∃ x w' K', (s.run P w = .ok (.value x) w' ∨ (s.run P w = .ok .skip w' ∧ x = Go.undef)) ∧ Rel σ K' w' v x ∧ Inv σ K' H' w' ∧ Evo K H w K' H' w'

section
variable {C : Cfg} {σ : Nat → Addr} {K : Ctx} {H H' : Heap} {w : World} {v : V}

theorem Out.same {P : Program} {s : Sem Next} {x : Value} (inv : Inv σ K H w) (hr : s.run P w = .ok (.value x) w) (h : Rel σ K w v x) : Out P σ K H w s v H :=
  ⟨x, w, K, .inl hr, h, inv, .refl _ _ _⟩

theorem lift_eq {α : Type} {o : Option α} {a : α} (h : M.lift o H = some (a, H')) : o = some a ∧ H' = H := by
  cases o with
  | none => simp [M.lift] at h
  | some b => simp [M.lift] at h; exact ⟨by rw [h.1], h.2.symm⟩

theorem info_of_under {P : Program} {t : TypeId} {d : TypeDesc} (h : P.underlying t = some d) : ∃ i, P.info? t = some i := by
  unfold Program.underlying at h
  split at h
  · rename_i hh; exact ⟨_, hh⟩
  · rename_i hh; exact ⟨_, hh⟩
  · cases h

theorem run_sizeOf {P : Program} {t : TypeId} {i : TypeInfo} (h : P.info? t = some i) (w : World) : (sizeOf t).run P w = .ok (P.cellsOf t) w := by
  simp [sizeOf, typeInfo, h, Program.cellsOf]

theorem run_isAgg {P : Program} {t : TypeId} {b : Bool} (h : isAgg P t = some b) (w : World) : (Go.isAgg t).run P w = .ok b w := by
  unfold isAgg at h
  cases hu : P.underlying t with
  | none => rw [hu] at h; cases h
  | some d =>
    rw [hu] at h
    unfold Go.isAgg
    rw [Sem.run_bind, run_underlying hu w]
    cases d <;> simp at h <;> subst h <;> rfl

theorem ok_cells {n : Nat} : ∀ {l : List V} {xs : List Value}, l.length = xs.length → (∀ c ∈ l, c.isCell = true) → (∀ (j : Nat) c x, l[j]? = some c → xs[j]? = some x → Rel σ K w c x) → n = n → Rel σ K w (.agg l) (.agg xs.toArray) := by
  intro l xs h1 h2 h3 _
  exact .agg l xs.toArray (by simpa using h1) h2 (fun i a b ha hb => h3 i a b ha (by simpa using hb))

/-- The place at which a pointer points. -/
theorem place (inv : Inv σ K H w) {p : V} {x : Value} (h : Rel σ K w p x) {row : List V} {o : Nat} (hp : placeV p H = some (row, o)) :
    ∃ b base, x = .pointer (some ⟨b, base + o, none⟩) ∧ CellsAt σ K w (fun k => w.cell? ⟨b, k, none⟩) base row := by
  cases h with
  | ptr l i o' b off sz hl hρ =>
    simp only [placeV] at hp
    cases hb : H.blk l with
    | none => rw [hb] at hp; simp at hp
    | some B =>
      rw [hb] at hp
      simp only [Option.bind_some] at hp
      cases hr : B.rows[i]? with
      | none => rw [hr] at hp; simp at hp
      | some r =>
        rw [hr] at hp
        simp only [Option.bind_some, Option.some.injEq, Prod.mk.injEq] at hp
        obtain ⟨rfl, rfl⟩ := hp
        have h0 := inv.blk l B hb
        obtain ⟨cs, e, h1, h2, h3⟩ := h0.at_
        have hz := h0.sz
        rw [hρ] at h1 h3 hz
        simp only at h1 h3 hz
        subst hz
        refine ⟨b, off + i * B.sz, rfl, fun j c hj => ?_⟩
        obtain ⟨h4, y, h5, h6⟩ := h3 i r j c hr hj
        exact ⟨h4, y, (cell_of_row w b _ cs e (0, 0) h1).trans h5, h6⟩
  | iptr row' o' b off val hI hc hw h =>
    simp only [placeV, Option.some.injEq, Prod.mk.injEq] at hp
    obtain ⟨rfl, rfl⟩ := hp
    exact ⟨b, off, rfl, fun j c hj => ⟨V.cell_of_closed (hc c (List.mem_of_getElem? hj)), val j, hw j c hj, h j c hj⟩⟩
  | _ => simp [placeV] at hp

theorem ok_load (inv : Inv σ K H w) {t : TypeId} {p : V} {x : Value} (hp : Rel σ K w p x) (h : loadT C.P t p H = some (v, H')) :
    ∃ y, (Instr.loadAt t x).run C.P w = .ok y w ∧ Rel σ K w v y ∧ H' = H := by
  unfold loadT at h
  cases ha : isAgg C.P t with
  | none => rw [ha] at h; cases h
  | some ag =>
    rw [ha] at h
    cases hpl : placeV p H with
    | none => cases ag <;> simp [loadN, load1, hpl] at h
    | some ro =>
      obtain ⟨row, o⟩ := ro
      obtain ⟨b, base, rfl, hc⟩ := place inv hp hpl
      have hadd : ∀ j, (⟨b, base + o, none⟩ : Addr).add j = ⟨b, base + o + j, none⟩ := fun j => by unfold Addr.add; split <;> simp_all
      have hag := run_isAgg ha w
      cases ag with
      | true =>
        simp only [loadN, hpl, Option.bind_some] at h
        by_cases hle : o + C.P.cellsOf t ≤ row.length
        · rw [if_pos hle] at h
          injection h with h
          injection h with h1 h2
          subst h1; subst h2
          have hseg := (hc.drop o).take (C.P.cellsOf t)
          obtain ⟨xs, e1, e2, e3, e4⟩ := hseg.vals
          have hlen : xs.length = C.P.cellsOf t := by rw [e1, List.length_take, List.length_drop]; omega
          have hl := run_loadCells_list (P := C.P) w ⟨b, base + o, none⟩ xs (fun j y hy => by rw [hadd]; exact e2 j y hy)
          rw [hlen] at hl
          have hi : ∃ i, C.P.info? t = some i := by
            unfold isAgg at ha
            cases hu : C.P.underlying t with
            | none => rw [hu] at ha; cases ha
            | some d => exact info_of_under hu
          obtain ⟨i, hi⟩ := hi
          refine ⟨.agg xs.toArray, ?_, ok_cells e1.symm hseg.cell e3 (n := 0) rfl, rfl⟩
          simp [Instr.loadAt, Instr.sureAddr, loadVar, hag, run_sizeOf hi, hl]
        · rw [if_neg hle] at h; cases h
      | false =>
        simp only [load1, hpl, Option.bind_some] at h
        cases hv : row[o]? with
        | none => rw [hv] at h; simp at h
        | some c =>
          rw [hv] at h
          simp only [Option.bind_some, Option.some.injEq, Prod.mk.injEq] at h
          obtain ⟨rfl, rfl⟩ := h
          obtain ⟨_, y, h2, h3⟩ := hc o c hv
          refine ⟨y, ?_, h3, rfl⟩
          simp only at h2
          simp [Instr.loadAt, Instr.sureAddr, loadVar, hag, h2]

theorem ok_new (inv : Inv σ K H w) {t : TypeId} {a : V} {x : Value} (hr : Rel σ K w a x) (h : newV a H = some (v, H')) :
    ∃ y w' K', (newVar t x).run C.P w = .ok y w' ∧ Rel σ K' w' v (.pointer (some y)) ∧ Inv σ K' H' w' ∧ Evo K H w K' H' w' := by
  unfold newV at h
  cases hc : a.cells? with
  | none => rw [hc] at h; simp at h
  | some cs =>
    rw [hc] at h
    simp only [Option.bind_some, Option.some.injEq, Prod.mk.injEq] at h
    obtain ⟨rfl, rfl⟩ := h
    obtain ⟨h1, h2, h3⟩ := hr.cells hc
    obtain ⟨K', i', e', hn, hρ, hD⟩ := inv.add t cs.length [cs] x.cells (by simp) (by simp [h1]) (fun i r j c hi hj => by
      cases i with
      | zero =>
        simp at hi; subst hi
        refine ⟨h2 c (List.mem_of_getElem? hj), ?_⟩
        have hlt : j < x.cells.size := by rw [← h1]; exact (List.getElem?_eq_some_iff.1 hj).1
        exact ⟨x.cells[j], by simp [hlt], h3 j c _ hj (by simp [hlt])⟩
      | succ i => simp at hi)
    refine ⟨⟨w.heap.size, 0, none⟩, _, K', by simp [newVar, newRow], ?_, i', e'⟩
    rw [← inv.nx]
    have := Rel.ptr (σ := σ) (K := K') (w := w.alloc (Obj.cells x.cells t)) K.nx 0 0 w.heap.size 0 cs.length hD hρ
    simpa using this

/-- A store. -/
theorem ok_store (inv : Inv σ K H w) {t : TypeId} {p a : V} {x y : Value} (hp : Rel σ K w p x) (ha : Rel σ K w a y) {i : TypeInfo} (hi : C.P.info? t = some i) (h : storeN (C.P.cellsOf t) p a H = some (v, H')) :
    ∃ w', (Instr.storeAt t x y).run C.P w = .ok () w' ∧ v = .undef ∧ Inv σ K H' w' ∧ Evo K H w K H' w' := by
  cases hp with
  | ptr l i' o b off sz hl hρ =>
    simp only [storeN] at h
    by_cases hf : H.floor ≤ l
    · rw [if_pos hf] at h
      cases hc : a.cells? with
      | none => rw [hc] at h; simp at h
      | some cs =>
        rw [hc] at h
        simp only [Option.bind_some] at h
        by_cases hn : cs.length = C.P.cellsOf t
        · rw [if_pos hn] at h
          cases hb : H.blk l with
          | none => rw [hb] at h; simp at h
          | some B =>
            rw [hb] at h
            simp only [Option.bind_some] at h
            cases hr : B.rows[i']? with
            | none => rw [hr] at h; simp at h
            | some r =>
              rw [hr] at h
              simp only [Option.bind_some] at h
              unfold putRow at h
              by_cases hle : o + cs.length ≤ r.length
              · rw [if_pos hle] at h
                simp only [Option.bind_some, Option.some.injEq, Prod.mk.injEq] at h
                obtain ⟨rfl, rfl⟩ := h
                obtain ⟨h1, h2, h3⟩ := ha.cells hc
                have h0 := inv.blk l B hb
                obtain ⟨cur, e, g1, g2, g3⟩ := h0.flat
                have hz := h0.sz
                rw [hρ] at g1 g2 g3 hz
                simp only at g1 g2 g3 hz
                subst hz
                have hrl := h0.rows r (List.mem_of_getElem? hr)
                have hilt : i' < B.rows.length := (List.getElem?_eq_some_iff.1 hr).1
                have hfl := flatten_length B.rows h0.rows
                have hmul : i' * B.sz + B.sz ≤ B.rows.length * B.sz := by
                  have : (i' + 1) * B.sz ≤ B.rows.length * B.sz := Nat.mul_le_mul_right _ hilt
                  rwa [Nat.succ_mul] at this
                have hone : ∀ u ∈ y.cells.toList, u.oneCell' = true := fun u hu => by
                  obtain ⟨j, hj⟩ := List.getElem?_of_mem hu
                  have hlt : j < cs.length := by rw [h1]; simpa using (List.getElem?_eq_some_iff.1 hj).1
                  exact (h3 j cs[j] u (List.getElem?_eq_getElem hlt) (by simpa using hj)).oneCell (h2 _ (List.getElem_mem hlt))
                have hlen : y.cells.toList.length = cs.length := by simpa using h1.symm
                have hst := run_storeCells_at C.P b (off + i' * B.sz + o) e y.cells.toList 0 cur w g1 (by rw [hlen]; omega) hone
                have hsp := g3.splice (new := cs) (vs := y.cells.toList) (i' * B.sz + o) (by rw [hfl]; omega) hlen (by rw [hfl]; simpa using g2) h2 (fun j c z hj hz => h3 j c z hj (by simpa using hz))
                rw [← flatten_splice B.rows h0.rows i' o r cs hr hle, ← Nat.add_assoc] at hsp
                have hrows : ∀ r' ∈ B.rows.set i' (r.take o ++ cs ++ r.drop (o + cs.length)), r'.length = B.sz := fun r' h' => by
                  rcases List.mem_or_eq_of_mem_set h' with h' | h'
                  · exact h0.rows r' h'
                  · rw [h']; simp; omega
                simp only [Nat.add_zero] at hst
                generalize hcs' : cur.toList.take (off + i' * B.sz + o) ++ y.cells.toList ++ cur.toList.drop (off + i' * B.sz + o + y.cells.toList.length) = cs' at hst hsp
                have hl' : cs'.length = cur.size := by rw [← hcs']; simp only [List.length_append, List.length_take, List.length_drop, Array.length_toList] at *; omega
                obtain ⟨j1, j2⟩ := inv.writeFlat hb hf (cs := cur) (e := e) (by rw [hρ]; exact g1) hl' hrows (by rw [hρ]; simpa using g2) (by rw [hρ]; exact hsp)
                rw [hρ] at j1 j2
                have hcs : y.cells.size = C.P.cellsOf t := by rw [← h1, hn]
                refine ⟨_, ?_, rfl, j1, j2⟩
                simp [Instr.storeAt, Instr.sureAddr, storeVar, run_sizeOf hi, hcs, hst]
              · rw [if_neg hle] at h; simp at h
        · rw [if_neg hn] at h; cases h
    · rw [if_neg hf] at h; cases h
  | _ => simp [storeN] at h
end
end Go.Fv
