/-
  Guarded operations: what they look at, and what they see. By an AI agent; no person has read it.
-/
import Derived.Test.YtjjiphigolegbaaDoorFvLocal
set_option linter.unusedVariables false
set_option linter.unusedSimpArgs false
set_option linter.unusedSectionVars false
/-! Guarded operations: what they look at, and what they see. -/
namespace Go.Fv
open Go

section
variable {C : Cfg} {call : FuncId → List V → M V} {ops : Array Oper}

theorem ptrOf_load (env : Env) (t : TypeId) (x : Operand) : ptrOf C env (.load t x) = ev C env x := rfl
theorem ptrOf_store (env : Env) (t : TypeId) (x y : Operand) : ptrOf C env (.store t x y) = ev C env x := rfl

theorem local_guarded {env : Env} {o : Oper} {H H' H2 : Heap} {v : V} (hq : isQ o.op = false) (hok : okOp o.op = true) (h : guarded C call ops env o H = some (v, H')) (hn : H2.next = H.next) (hf : isS o.op = true → H2.floor = H.floor)
    (hb : ∀ l i f, (isL o.op = true ∨ isS o.op = true) → ptrOf C env o.op = .ptr l i f → H2.blk l = H.blk l) (hbnd : ∀ l B, H.blk l = some B → l < H.next) :
    ∃ H2', guarded C call ops env o H2 = some (v, H2') ∧ Local (isS o.op) (ptrOf C env o.op) H H' H2 H2' := by
  have run : stepV C call (ev C env) o.op H = some (v, H') → ∃ H2', stepV C call (ev C env) o.op H2 = some (v, H2') ∧ Local (isS o.op) (ptrOf C env o.op) H H' H2 H2' := fun h =>
    local_step hq hok h hn hf (fun t x he => by rw [he]; rfl) (fun t x y he => by rw [he]; rfl) hb hbnd
  unfold guarded at h ⊢
  cases hg : o.guard with
  | none =>
    rw [hg] at h
    exact run h
  | some g =>
    obtain ⟨j, want⟩ := g
    rw [hg] at h
    simp only at h ⊢
    cases hd : (ops[j]?).bind (·.dst) with
    | none => rw [hd] at h; cases h
    | some d =>
      rw [hd] at h
      simp only at h ⊢
      generalize env d = p at h ⊢
      cases p with
      | bool b =>
        simp only [guardV] at h ⊢
        by_cases e : b = want
        · rw [if_pos e] at h ⊢
          exact run h
        · rw [if_neg e] at h ⊢
          simp only [M.ret, Option.some.injEq, Prod.mk.injEq] at h
          obtain ⟨rfl, rfl⟩ := h
          have hb' : isS o.op = true → ∀ l i f, ptrOf C env o.op = .ptr l i f → H2.blk l = H.blk l := fun hs l i f he => hb l i f (.inr hs) he
          refine ⟨H2, rfl, rfl, hn, Nat.le_refl _, fun l _ h => absurd rfl h, fun l i f _ _ => .inr ⟨rfl, rfl⟩, fun l _ h => h, fun l i f hs h => hb' hs l i f h, fun l h1 h2 => by omega, fun l _ => rfl, fun _ => rfl⟩
      | tuple l0 =>
        simp only [guardV] at h ⊢
        simp only [M.ret, Option.some.injEq, Prod.mk.injEq] at h
        obtain ⟨rfl, rfl⟩ := h
        have hb' : isS o.op = true → ∀ l i f, ptrOf C env o.op = .ptr l i f → H2.blk l = H.blk l := fun hs l i f he => hb l i f (.inr hs) he
        refine ⟨H2, rfl, rfl, hn, Nat.le_refl _, fun l _ h => absurd rfl h, fun l i f _ _ => .inr ⟨rfl, rfl⟩, fun l _ h => h, fun l i f hs h => hb' hs l i f h, fun l h1 h2 => by omega, fun l _ => rfl, fun _ => rfl⟩
      | _ => cases h

theorem mem_tmpsOf {xs : Array Operand} {t : Nat} : t ∈ tmpsOf xs ↔ Operand.tmp t ∈ xs.toList := by
  unfold tmpsOf
  rw [List.mem_filterMap]
  constructor
  · rintro ⟨x, hx, h⟩
    cases x <;> simp at h
    subst h; exact hx
  · intro h; exact ⟨_, h, rfl⟩

theorem stepV_congr {e e' : Operand → V} (o : Op) (h : ∀ x, x ∈ o.operands.toList → e x = e' x) : stepV C call e o = stepV C call e' o := by
  cases o
  case call c =>
    obtain ⟨callee, args, ats⟩ := c
    cases callee with
    | invoke r n => rfl
    | builtin b =>
      show builtinV C b ats (args.toList.map e) = builtinV C b ats (args.toList.map e')
      rw [List.map_congr_left (fun x hx => h x (by simp [Op.operands, Call.operands]; simpa using hx))]
    | value f =>
      show callFn C call (e f) (args.toList.map e) = callFn C call (e' f) (args.toList.map e')
      rw [List.map_congr_left (fun x hx => h x (by simp [Op.operands, Call.operands]; exact .inr (by simpa using hx))), h f (by simp [Op.operands, Call.operands])]
  case build t parts =>
    have hm : ∀ p ∈ parts.toList, e p.2 = e' p.2 := fun p hp => h p.2 (by simp only [Op.operands]; simp; exact ⟨p.1, by simpa using hp⟩)
    simp only [stepV, opV]
    have h1 : ∀ (F : Nat × Operand → V → Option (Nat × Nat × V)), (parts.toList.mapM fun p => F p (e p.2)) = parts.toList.mapM fun p => F p (e' p.2) := fun F => by
      have : ∀ l : List (Nat × Operand), (∀ p ∈ l, e p.2 = e' p.2) → (l.mapM fun p => F p (e p.2)) = l.mapM fun p => F p (e' p.2) := by
        intro l
        induction l with
        | nil => intro _; rfl
        | cons p l ih => intro hl; rw [List.mapM_cons, List.mapM_cons, hl p (List.mem_cons_self ..), ih fun q hq => hl q (List.mem_cons_of_mem _ hq)]
      exact this _ hm
    have h2 : ∀ (F : Nat × Operand → V → Nat × Nat × V), (parts.toList.map fun p => F p (e p.2)) = parts.toList.map fun p => F p (e' p.2) := fun F => List.map_congr_left fun p hp => by rw [hm p hp]
    split
    · rename_i fs z _ _
      rw [h1 fun p x => (fs[p.1]?).map fun f => (f.offset, C.P.cellsOf f.type, x)]
    · rename_i len el z _ _
      rw [h2 fun p x => (p.1 * C.P.cellsOf el, C.P.cellsOf el, x)]
    · rfl
  case buildSlice t n parts =>
    have hm : ∀ p ∈ parts.toList, e p.2 = e' p.2 := fun p hp => h p.2 (by simp only [Op.operands]; simp; exact ⟨p.1, by simpa using hp⟩)
    simp only [stepV, opV]
    rw [List.map_congr_left (g := fun p => (p.1, e' p.2)) fun p hp => by rw [hm p hp]]
  case makeFunc fn first caps =>
    cases fn <;> simp only [stepV, opV]
    rw [List.map_congr_left (fun x hx => h x (by simp [Op.operands]; exact .inr (by simpa using hx)))]
  case slice t x lo hi mx =>
    simp only [stepV, opV]
    have hx := h x (by simp [Op.operands])
    have ho : ∀ o : Option Operand, (∀ y, o = some y → e y = e' y) → o.map e = o.map e' := fun o ho => by cases o with | none => rfl | some y => simp [ho y rfl]
    rw [hx, ho lo fun y hy => h y (by simp [Op.operands, hy]), ho hi fun y hy => h y (by simp [Op.operands, hy]), ho mx fun y hy => h y (by simp [Op.operands, hy])]
  all_goals first
    | rfl
    | (simp only [stepV, opV]
       simp only [Op.operands] at h
       first
         | (rw [h _ (List.mem_cons_self ..), h _ (List.mem_cons_of_mem _ (List.mem_cons_self ..)), h _ (List.mem_cons_of_mem _ (List.mem_cons_of_mem _ (List.mem_cons_self ..)))]; done)
         | (rw [h _ (List.mem_cons_self ..), h _ (List.mem_cons_of_mem _ (List.mem_cons_self ..))]; done)
         | rw [h _ (List.mem_cons_self ..)])

def mask (l : List Nat) (env : Env) : Env := fun t => if l.contains t then env t else .undef

theorem ev_mask {l : List Nat} {env : Env} {x : Operand} (h : ∀ t, x = .tmp t → t ∈ l) : ev C env x = ev C (mask l env) x := by
  cases x with
  | tmp t => simp only [ev, mask]; rw [if_pos (by simpa using h t rfl)]
  | _ => rfl

theorem touches_op {o : Oper} {t : Nat} (h : Operand.tmp t ∈ o.op.operands.toList) : t ∈ touches ops o := by
  unfold touches
  exact List.mem_append_left _ (List.mem_append_right _ (mem_tmpsOf.2 h))

theorem guarded_mask (env : Env) (o : Oper) : guarded C call ops env o = guarded C call ops (mask (touches ops o) env) o := by
  have hs : stepV C call (ev C env) o.op = stepV C call (ev C (mask (touches ops o) env)) o.op :=
    stepV_congr o.op fun x hx => ev_mask fun t ht => touches_op (by rw [← ht]; exact hx)
  unfold guarded
  cases hg : o.guard with
  | none => exact hs
  | some g =>
    obtain ⟨j, want⟩ := g
    simp only
    cases hd : (ops[j]?).bind (·.dst) with
    | none => rfl
    | some d =>
      simp only
      have : mask (touches ops o) env d = env d := by
        unfold mask
        rw [if_pos]
        simp only [List.contains_eq_mem, decide_eq_true_eq]
        unfold touches
        rw [hg]
        refine List.mem_append_right _ ?_
        simp only
        rw [hd]
        simp
      rw [this, hs]

theorem ptrOf_mask (env : Env) (o : Oper) : ptrOf C (mask (touches ops o) env) o.op = ptrOf C env o.op := by
  cases ho : o.op <;> try rfl
  · exact (ev_mask fun t ht => touches_op (by rw [ho, ht]; simp [Op.operands])).symm
  · exact (ev_mask fun t ht => touches_op (by rw [ho, ht]; simp [Op.operands])).symm
end
end Go.Fv
