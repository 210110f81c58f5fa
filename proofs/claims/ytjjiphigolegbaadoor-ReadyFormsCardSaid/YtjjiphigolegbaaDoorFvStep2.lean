/-
  One operation, with the calls. By an AI agent; no person has read it.
-/
import Derived.Test.YtjjiphigolegbaaDoorFvOwn
set_option linter.unusedVariables false
set_option linter.unusedSimpArgs false
set_option linter.unusedSectionVars false
/-! One operation, with the calls. -/
namespace Go.Fv
open Go

section
variable {C : Cfg} {σ : Nat → Addr} {K : Ctx} {H H' : Heap} {w : World} {v : V} {call : FuncId → List V → M V}

structure Good (C : Cfg) (σ : Nat → Addr) : Prop where
  mixed : C.P.follows .mixedOrders = true
  ext : ∀ f, C.kind f = .ext → SoundF C σ f fun args => M.lift (C.X f args)

theorem ok_callV (good : Good C σ) (SF : ∀ f, SoundF C σ f (call f)) (f : FuncId) : SoundF C σ f (callV C call f) := by
  unfold callV
  cases hk : C.kind f with
  | inl => exact SF f
  | pure => exact ok_callP (SF f)
  | own => exact ok_callOwn (SF f)
  | ext => exact good.ext f hk

theorem args_rel {e : Operand → V} {ρ : Operand → Value} (E : ∀ x, Rel σ K w (e x) (ρ x)) (args : Array Operand) : ArgsRel σ K w (args.toList.map e) (args.map ρ) := by
  refine ⟨by simp, fun i a b ha hb => ?_⟩
  rw [List.getElem?_map] at ha
  rw [Array.getElem?_map] at hb
  rw [Array.getElem?_toList] at ha
  cases hx : args[i]? with
  | none => rw [hx] at ha; simp at ha
  | some x => rw [hx] at ha hb; simp at ha hb; subst ha; subst hb; exact E x

theorem ArgsRel.append {vs us : List V} {xs ys : Array Value} (h1 : ArgsRel σ K w vs xs) (h2 : ArgsRel σ K w us ys) : ArgsRel σ K w (vs ++ us) (xs ++ ys) := by
  refine ⟨by simp [h1.1, h2.1], fun i a b ha hb => ?_⟩
  rcases Nat.lt_or_ge i vs.length with g | g
  · rw [List.getElem?_append_left g] at ha
    rw [Array.getElem?_append_left (by rw [← h1.1]; exact g)] at hb
    exact h1.2 i a b ha hb
  · rw [List.getElem?_append_right g] at ha
    rw [Array.getElem?_append_right (by rw [← h1.1]; exact g), ← h1.1] at hb
    exact h2.2 _ a b ha hb

/-- What a callee is, where a value calls it. -/
theorem callFn_eq {f : V} {x : Value} {args : List V} (hf : Rel σ K w f x) (h : callFn C call f args H = some (v, H')) :
    ∃ g caps cs, f = .fn g caps ∧ x = .func (.func g) #[] cs ∧ ArgsRel σ K w caps cs ∧ callV C call g (args ++ caps) H = some (v, H') := by
  cases hf with
  | fn g caps cs hl hr => exact ⟨g, caps, cs, rfl, rfl, ⟨hl, hr⟩, h⟩
  | _ => cases h

theorem ok_step (good : Good C σ) (SF : ∀ f, SoundF C σ f (call f)) (inv : Inv σ K H w) (gl : GlobOk C σ K w) {e : Operand → V} {a : Act} (E : ∀ x, Rel σ K w (e x) (a.eval x)) (o : Oper)
    (h : stepV C call e o.op H = some (v, H')) {next : Act → World → Prop} {Q : Exit → Act → World → Prop} (k : ∀ x w', Leads C σ K H w v H' x w' → next (a.put o.dst x) w') :
    o.wp C.P a w next Q := by
  have plain : opV C e o.op H = some (v, H') → o.wp C.P a w next Q := fun h => by
    obtain ⟨x, w', hr, hl⟩ := ok_op inv E o h
    unfold Oper.wp
    rcases hr with hr | ⟨hr, rfl⟩
    · rw [hr, Oper.upon_value]; exact k _ _ hl
    · rw [hr, Oper.upon_skip]; exact k _ _ hl
  obtain ⟨dst, op, type, pos, after, guard⟩ := o
  cases op
  case call c =>
    obtain ⟨callee, args, ats⟩ := c
    cases callee with
    | invoke r n => cases h
    | builtin b =>
      have he : ∃ consts, (execOp a.eval ⟨dst, .call ⟨.builtin b, args, ats⟩, type, pos, after, guard⟩).run C.P w = (builtin b ats type consts (args.map a.eval)).run C.P w :=
        ⟨_, by simp only [execOp, resolve, invoke, Sem.run_bind, Sem.run_pure, Result.andThen_ok]; rfl⟩
      obtain ⟨consts, he⟩ := he
      obtain ⟨x, w', hr, hl⟩ := ok_builtin (type := type) (consts := consts) inv (args_rel E args).1 (args_rel E args).2 h
      unfold Oper.wp
      rw [he]
      rcases hr with hr | ⟨hr, rfl⟩
      · rw [hr, Oper.upon_value]; exact k _ _ hl
      · rw [hr, Oper.upon_skip]; exact k _ _ hl
    | value f =>
      obtain ⟨g, caps, cs, h1, h2, h3, h4⟩ := callFn_eq (E f) h
      obtain ⟨⟨fn, c1, c2, c3⟩, c4⟩ := ok_callV good SF g K H w _ _ v H' inv gl ((args_rel E args).append h3) h4
      unfold Oper.wp
      have he : (execOp a.eval ⟨dst, .call ⟨.value f, args, ats⟩, type, pos, after, guard⟩).run C.P w = .ok (.enter g (args.map a.eval ++ cs)) w := by
        have h5 : a.eval f = .func (.func g) #[] cs := h2
        obtain ⟨cc, hb⟩ := Option.isSome_iff_exists.1 c2
        simp [execOp, resolve, invoke, Deferred.ofValue, h5, callFunc, c1, hb, c3]
      rw [he, Oper.upon_enter]
      exact c4.mono fun e' w'' he' => by
        obtain ⟨x, rfl, hl⟩ := he'
        exact k _ _ hl
  all_goals exact plain h
end
end Go.Fv
