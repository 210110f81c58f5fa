/-
  Operations, further: what is built. By an AI agent; no person has read it.
-/
import Derived.Test.YtjjiphigolegbaaDoorFvOps4
set_option linter.unusedVariables false
set_option linter.unusedSimpArgs false
set_option linter.unusedSectionVars false
/-! Operations, further: what is built. -/
namespace Go.Fv
open Go

section
variable {C : Cfg} {σ : Nat → Addr} {K : Ctx} {H H' : Heap} {w : World} {v : V}

theorem mapM_some {α β : Type} (f : α → Option β) (g : α → β) (h : ∀ a, f a = some (g a)) : ∀ l : List α, l.mapM f = some (l.map g)
  | [] => rfl
  | a :: l => by rw [List.mapM_cons, h, mapM_some f g h l]; rfl

theorem fold_set (off : Nat) : ∀ (vs : List Value) (k : Nat) (cs : Array Value), off + k + vs.length ≤ cs.size →
    ((vs.zipIdx k).foldl (fun cs (x : Value × Nat) => cs.setIfInBounds (off + x.2) x.1) cs).toList = cs.toList.take (off + k) ++ vs ++ cs.toList.drop (off + k + vs.length)
  | [], k, cs, _ => by simp
  | v :: vs, k, cs, h => by
    have ih := fold_set off vs (k + 1) (cs.setIfInBounds (off + k) v) (by simp at h ⊢; omega)
    rw [List.zipIdx_cons, List.foldl_cons, ih]
    have e := list_seg_step cs.toList (off + k) v vs (by simp at h ⊢; omega)
    simpa [Array.toList_setIfInBounds, Nat.add_assoc] using e

theorem fill_ok {e : Operand → V} {ρ : Operand → Value} (E : ∀ x, Rel σ K w (e x) (ρ x)) (pl : Nat → Option (Nat × Nat)) : ∀ (ops : List (Nat × Operand)) (ps : List (Nat × Nat × V)),
    (ops.mapM fun p => (pl p.1).map fun os => (os.1, os.2, e p.2)) = some ps → ∀ (l l' : List V) (cs : Array Value), Rel σ K w (.agg l) (.agg cs) → fill l ps = some l' →
    ∃ cs', Instr.fill pl cs (ops.map fun p => (p.1, ρ p.2)) = some cs' ∧ Rel σ K w (.agg l') (.agg cs') ∧ cs'.size = cs.size
  | [], ps, hps, l, l', cs, hr, hf => by
    simp at hps
    subst hps
    simp [fill] at hf
    subst hf
    exact ⟨cs, rfl, hr, rfl⟩
  | (i, x) :: ops, ps, hps, l, l', cs, hr, hf => by
    simp only [List.mapM_cons, Option.bind_eq_bind, Option.pure_def] at hps
    cases hpl : pl i with
    | none => rw [hpl] at hps; simp at hps
    | some os =>
      rw [hpl] at hps
      simp only [Option.map_some, Option.bind_some] at hps
      cases hm : ops.mapM fun p => (pl p.1).map fun os => (os.1, os.2, e p.2) with
      | none => rw [hm] at hps; simp at hps
      | some ps' =>
        rw [hm] at hps
        simp only [Option.bind_some, Option.some.injEq] at hps
        subst hps
        simp only [fill] at hf
        cases hc : (e x).cells? with
        | none => rw [hc] at hf; simp at hf
        | some vs =>
          rw [hc] at hf
          simp only [Option.bind_some] at hf
          split at hf
          · rename_i hlen
            unfold putRow at hf
            split at hf
            · rename_i hle
              simp only [Option.bind_some] at hf
              obtain ⟨h1, h2, h3⟩ := (E x).cells hc
              cases hr with
              | agg _ _ hl hcl hrl =>
                have hsz : (ρ x).cells.size = os.2 := by rw [← h1, hlen]
                have hfs := fold_set os.1 (ρ x).cells.toList 0 cs (by simp; omega)
                simp only [Nat.add_zero] at hfs
                let cs1 : Array Value := (ρ x).cells.zipIdx.foldl (fun cs (y : Value × Nat) => cs.setIfInBounds (os.1 + y.2) y.1) cs
                have hcs1 : cs1.toList = cs.toList.take os.1 ++ (ρ x).cells.toList ++ cs.toList.drop (os.1 + (ρ x).cells.toList.length) := by
                  rw [← hfs]
                  show (Array.foldl _ cs (ρ x).cells.zipIdx).toList = _
                  rw [← Array.foldl_toList, Array.toList_zipIdx]
                have hlen1 : cs1.size = cs.size := by
                  have := congrArg List.length hcs1
                  simp only [List.length_append, List.length_take, List.length_drop, Array.length_toList] at this
                  omega
                have hr1 : Rel σ K w (.agg (l.take os.1 ++ vs ++ l.drop (os.1 + vs.length))) (.agg cs1) := by
                  refine .agg _ _ (by rw [hlen1]; simp; omega) ?_ ?_
                  · intro a ha
                    simp only [List.mem_append] at ha
                    rcases ha with (ha | ha) | ha
                    · exact hcl a (List.mem_of_mem_take ha)
                    · exact h2 a ha
                    · exact hcl a (List.mem_of_mem_drop ha)
                  · intro j a b ha hb
                    rw [← Array.getElem?_toList, hcs1] at hb
                    rw [splice_get _ _ _ _ hle] at ha
                    rw [splice_get _ _ _ _ (by simp; omega)] at hb
                    simp only [Array.length_toList, ← h1] at hb
                    split at ha
                    · rename_i g; rw [if_pos g] at hb; exact hrl j a b ha (by simpa using hb)
                    · rename_i g
                      rw [if_neg g] at hb
                      split at ha
                      · rename_i g'; rw [if_pos g'] at hb; exact h3 _ a b ha (by simpa using hb)
                      · rename_i g'; rw [if_neg g'] at hb; exact hrl j a b ha (by simpa using hb)
                obtain ⟨cs', g1, g2, g3⟩ := fill_ok E pl ops ps' hm _ l' cs1 hr1 hf
                refine ⟨cs', ?_, g2, g3.trans hlen1⟩
                simp only [List.map_cons, Instr.fill, hpl, hsz]
                rw [if_neg (by simp; omega)]
                exact g1
            · simp at hf
          · cases hf

theorem zeroC_rel {t : TypeId} {z : List V} (h : zeroC C.P t = some z) : ∃ i zv, C.P.info? t = some i ∧ i.zero = some zv ∧ Rel σ K w (.agg z) (.agg zv.cells) := by
  unfold zeroC at h
  cases hi : C.P.info? t with
  | none => rw [hi] at h; simp at h
  | some i =>
    rw [hi] at h
    simp only [Option.bind_some] at h
    cases hz : i.zero with
    | none => rw [hz] at h; simp at h
    | some zv =>
      rw [hz] at h
      simp only [Option.bind_some] at h
      obtain ⟨h1, h2, h3⟩ := (rel_cstV (σ := σ) (K := K) (w := w) zv).cells h
      exact ⟨i, zv, rfl, hz, .agg z zv.cells h1 h2 h3⟩

theorem run_zeroValue {P : Program} {t : TypeId} {i : TypeInfo} {zv : Value} (hi : P.info? t = some i) (hz : i.zero = some zv) (w : World) : (zeroValue t).run P w = .ok zv w := by
  simp [zeroValue, typeInfo, hi, hz]

theorem run_mapM_places {P : Program} (w : World) : ∀ (fs : List Field), (fs.all fun f => (P.info? f.type).isSome) = true →
    (fs.mapM fun f => do pure (f.offset, ← sizeOf f.type) : Sem (List (Nat × Nat))).run P w = .ok (fs.map fun f => (f.offset, P.cellsOf f.type)) w
  | [], _ => rfl
  | f :: fs, h => by
    simp only [List.all_cons, Bool.and_eq_true] at h
    obtain ⟨i, hi⟩ := Option.isSome_iff_exists.1 h.1
    have ih := run_mapM_places w fs h.2
    simp only [List.mapM_cons, Sem.run_bind, run_sizeOf hi, Result.andThen_ok, Sem.run_pure, ih, List.map_cons]

theorem ok_build {t : TypeId} {parts : Array (Nat × Operand)} {e : Operand → V} {ρ : Operand → Value} (E : ∀ x, Rel σ K w (e x) (ρ x)) (h : opV C e (.build t parts) H = some (v, H')) :
    ∃ z, (Instr.build t (parts.map fun (i, x) => (i, ρ x))).run C.P w = .ok z w ∧ Rel σ K w v z ∧ H' = H := by
  cases hu : C.P.underlying t with
  | none => simp [opV, hu, M.fail] at h
  | some u =>
  cases hz : zeroC C.P t with
  | none => cases u <;> simp [opV, hu, hz, M.fail] at h
  | some z =>
  obtain ⟨i, zv, hi, hzv, hrz⟩ := zeroC_rel (σ := σ) (K := K) (w := w) hz
  have hp : (parts.map fun (x : Nat × Operand) => (x.1, ρ x.2)).toList = parts.toList.map fun p => (p.1, ρ p.2) := by simp
  cases u <;> simp only [opV, hu, hz] at h
  case struct fs =>
    split at h
    · cases h
    · rename_i hall
      have hall : (fs.toList.all fun f => (C.P.info? f.type).isSome) = true := by simpa only [Bool.not_eq_false] using hall
      generalize hps : (parts.toList.mapM fun p => (fs[p.1]?).map fun f => (f.offset, C.P.cellsOf f.type, e p.2)) = ops at h
      cases ops with
      | none => cases h
      | some ps =>
        obtain ⟨h2, e2⟩ := lift_eq h
        clear h
        subst e2
        have h := h2
        clear h2
        unfold buildV at h
        cases hf : fill z ps with
        | none => rw [hf] at h; simp at h
        | some l' =>
          rw [hf] at h
          simp only [Option.bind_some, Option.some.injEq] at h
          subst h
          let places : Array (Nat × Nat) := (fs.toList.map fun f => (f.offset, C.P.cellsOf f.type)).toArray
          have hps' : (parts.toList.mapM fun p => (places[p.1]?).map fun os => (os.1, os.2, e p.2)) = some ps := by
            rw [← hps]
            congr 1
            funext p
            simp only [places]
            cases hq : fs[p.1]? <;> simp [hq]
          obtain ⟨cs', g1, g2, _⟩ := fill_ok E (fun i => places[i]?) parts.toList ps hps' z l' zv.cells hrz hf
          refine ⟨.agg cs', ?_, g2, rfl⟩
          have hm : (fs.mapM fun f => do pure (f.offset, ← sizeOf f.type) : Sem (Array (Nat × Nat))).run C.P w = .ok places w := by
            rw [Array.mapM_eq_mapM_toList]
            simp only [Sem.run_map, run_mapM_places w fs.toList hall, places, Result.andThen_ok]
          simp only [Instr.build, Sem.run_bind, run_zeroValue hi hzv, Result.andThen_ok, run_underlying hu, hm]
          simp only [hp, g1, Sem.run_pure]
  case array n el =>
    split at h
    · cases h
    · rename_i hall
      obtain ⟨iel, hiel⟩ := Option.isSome_iff_exists.1 (by simpa only [Bool.not_eq_false] using hall)
      obtain ⟨h2, e2⟩ := lift_eq h
      clear h
      subst e2
      have h := h2
      clear h2
      unfold buildV at h
      cases hf : fill z (parts.toList.map fun p => (p.1 * C.P.cellsOf el, C.P.cellsOf el, e p.2)) with
      | none => rw [hf] at h; simp at h
      | some l' =>
        rw [hf] at h
        simp only [Option.bind_some, Option.some.injEq] at h
        subst h
        have hps' : (parts.toList.mapM fun p => ((some (p.1 * C.P.cellsOf el, C.P.cellsOf el) : Option (Nat × Nat))).map fun os => (os.1, os.2, e p.2)) = some (parts.toList.map fun p => (p.1 * C.P.cellsOf el, C.P.cellsOf el, e p.2)) := by
          exact mapM_some _ _ (fun _ => rfl) _
        obtain ⟨cs', g1, g2, _⟩ := fill_ok E (fun i => some (i * C.P.cellsOf el, C.P.cellsOf el)) parts.toList _ hps' z l' zv.cells hrz hf
        refine ⟨.agg cs', ?_, g2, rfl⟩
        simp only [Instr.build, Sem.run_bind, run_zeroValue hi hzv, Result.andThen_ok, run_underlying hu, run_sizeOf hiel]
        simp only [hp, g1, Sem.run_pure]
  all_goals (simp [M.fail] at h)
end
end Go.Fv
