/-
  A run that the kernel can play: loops with a bound. What it answers, the plain meaning answers. By an AI agent; no person has read it.
-/
import Derived.Test.YtoogammidjhfgaaDoorFvW4
set_option linter.unusedVariables false
set_option linter.unusedSimpArgs false
set_option linter.unusedSectionVars false
/-! A run that the kernel can play: loops with a bound. What it answers, the plain meaning answers. -/
namespace Go.Fv
open Go
set_option linter.unusedVariables false

noncomputable def runKc (C : Cfg) (call : FuncId → List V → M V) (fuel : Nat) (T : List Nat) (c : Code) : Env → (Ex → Env → M R) → M R :=
  Code.rec (motive := fun _ => Env → (Ex → Env → M R) → M R)
    (fun env K => K .normal env)
    (fun _ ops draw env K => match draw with
      | false => runOps C call ops ops.toList env (K .normal)
      | true => if orderOk ops then fun h => runDrawn C call ops h.next ops.toList 0 [] env (K .normal) h else M.fail)
    (fun _ _ ra rb env K => ra env (onNormal (fun env' => rb env' K) K))
    (fun c _ _ ra rb env K => condV (ev C env c) (ra env K) (rb env K))
    (fun id _ rc env K => rc env (onBlock id K))
    (fun c rc env K => (iter (fun s => rc (restore env (carried T c) (allDsts c) s) fun e env' => M.ret (e, (carried T c).map env')) fuel ((carried T c).map env)).bind
      (onLoop K env (carried T c) (allDsts c)))
    (fun _ _ _ _ _ _ _ _ => M.fail)
    (fun id env K => K (.exit id) env)
    (fun _ _ _ _ => M.fail)
    (fun _ env K => K .normal env)
    (fun _ _ _ => M.fail)
    (fun env K => K .ret env)
    (fun _ _ _ => M.fail)
    c
noncomputable def bodyVc (C : Cfg) (call : FuncId → List V → M V) (fuel : Nat) (fn : Func) (c : Code) (args : List V) : M V :=
  if okFn fn c then (runKc C call fuel (reads c ++ fn.results.toList.map fun | .tmp t => t | .cell a _ => a) c (fun t => args.getD t .undef) (finish C.P fn)).bind fun r => M.ret (r.2.getD 0 .undef) else M.fail
noncomputable def fnVc (C : Cfg) (call : FuncId → List V → M V) (fuel : Nat) (f : FuncId) (args : List V) : M V :=
  match C.P.funcs[f]? with
  | some fn => match fn.body with
    | some c => if fn.name = "runtime.NumGoroutine" then M.fail else bodyVc C call fuel fn c args
    | none => M.fail
  | none => M.fail
noncomputable def semC (C : Cfg) (fuel : Nat) : Nat → FuncId → List V → M V
  | 0 => fun _ _ => M.fail
  | n + 1 => fun f args => fnVc C (semC C fuel n) fuel f args

def Le {α : Type} (m m' : M α) : Prop := ∀ H r, m H = some r → m' H = some r
section
variable {α β : Type}
theorem Le.refl (m : M α) : Le m m := fun _ _ h => h
theorem Le.fail (m : M α) : Le M.fail m := fun _ _ h => by cases h
theorem Le.bind {m m' : M α} {f f' : α → M β} (hm : Le m m') (hf : ∀ a, Le (f a) (f' a)) : Le (M.bind m f) (M.bind m' f') := fun H r h => by
  simp only [M.bind] at h ⊢
  cases e : m H with
  | none => rw [e] at h; cases h
  | some x =>
    rw [e] at h
    rw [hm H x e]
    exact hf x.1 x.2 r h
theorem Le.ite {c : Prop} [Decidable c] {m m' n n' : M α} (h1 : Le m m') (h2 : Le n n') : Le (if c then m else n) (if c then m' else n') := by
  by_cases h : c
  · rw [if_pos h, if_pos h]; exact h1
  · rw [if_neg h, if_neg h]; exact h2
theorem Le.cond {v : V} {m m' n n' : M α} (h1 : Le m m') (h2 : Le n n') : Le (condV v m n) (condV v m' n') := by
  cases v with
  | bool t => cases t; exact h2; exact h1
  | _ => exact Le.refl _
end
section
variable {C : Cfg} {call call' : FuncId → List V → M V}
theorem callP_le {own : Bool} {f f' : List V → M V} (hf : ∀ as, Le (f as) (f' as)) (args : List V) : Le (callP own f args) (callP own f' args) := fun H r h => by
  simp only [callP] at h ⊢
  cases hm : args.mapM (thawV true H) with
  | none => rw [hm] at h; cases h
  | some as =>
    rw [hm] at h
    simp only [Option.bind_some] at h ⊢
    cases e : f as Heap.empty with
    | none => rw [e] at h; cases h
    | some x =>
      rw [e] at h
      rw [hf as Heap.empty x e]
      exact h
theorem callV_le (hc : ∀ f as, Le (call f as) (call' f as)) (f : FuncId) (args : List V) : Le (callV C call f args) (callV C call' f args) := by
  unfold callV
  cases C.kind f with
  | inl => exact hc f args
  | pure => exact callP_le (hc f) args
  | own => exact callP_le (hc f) args
  | ext => exact Le.refl _
  | exts => exact Le.refl _
  | extm => exact Le.refl _
theorem callFn_le (hc : ∀ f as, Le (call f as) (call' f as)) (x : V) (args : List V) : Le (callFn C call x args) (callFn C call' x args) := by
  cases x <;> first | exact callV_le hc _ _ | exact Le.refl _
theorem stepV_le (hc : ∀ f as, Le (call f as) (call' f as)) (e : Operand → V) (o : Op) : Le (stepV C call e o) (stepV C call' e o) := by
  cases o with
  | call c =>
    obtain ⟨callee, args, ats⟩ := c
    cases callee with
    | value f => exact callFn_le hc _ _
    | builtin b => exact Le.refl _
    | invoke r n => exact Le.refl _
  | _ => exact Le.refl _
theorem guardV_le {v : V} {w : Bool} {m m' : M V} (h : Le m m') : Le (guardV v w m) (guardV v w m') := by
  cases v with
  | bool b => exact Le.ite h (Le.refl _)
  | _ => exact Le.refl _
theorem guarded_le (hc : ∀ f as, Le (call f as) (call' f as)) (ops : Array Oper) (env : Env) (o : Oper) : Le (guarded C call ops env o) (guarded C call' ops env o) := by
  unfold guarded
  cases o.guard with
  | none => exact stepV_le hc _ _
  | some g =>
    obtain ⟨j, w⟩ := g
    simp only
    cases (ops[j]?).bind (·.dst) with
    | none => exact Le.refl _
    | some d => exact guardV_le (stepV_le hc _ _)
theorem runOps_le (hc : ∀ f as, Le (call f as) (call' f as)) (ops : Array Oper) : ∀ (l : List Oper) (env : Env) (K K' : Env → M R), (∀ env, Le (K env) (K' env)) → Le (runOps C call ops l env K) (runOps C call' ops l env K')
  | [], env, K, K', hK => hK env
  | o :: l, env, K, K', hK => Le.bind (guarded_le hc ops env o) fun v => runOps_le hc ops l _ K K' hK
theorem qrun_le {v : Nat → Bool} {m m' : M V} (h : Le m m') : Le (qrun v m) (qrun v m') := fun H r e => by
  simp only [qrun] at e ⊢
  cases hm : m ⟨fun l => if v l then H.blk l else none, H.next, H.next⟩ with
  | none => rw [hm] at e; cases e
  | some x => rw [hm] at e; rw [h _ x hm]; exact e
theorem trun_le {v : Nat → Bool} {m m' : M V} (h : Le m m') : Le (trun v m) (trun v m') := fun H r e => by
  simp only [trun] at e ⊢
  cases hm : m ⟨fun l => if v l then H.blk l else none, H.next, H.floor⟩ with
  | none => rw [hm] at e; cases e
  | some x => rw [hm] at e; rw [h _ x hm]; exact e
theorem stepD_le (hc : ∀ f as, Le (call f as) (call' f as)) (ops : Array Oper) (n0 i : Nat) (bs : List (Nat × Nat × Nat × V)) (env : Env) (o : Oper) : Le (stepD C call ops n0 i bs env o) (stepD C call' ops n0 i bs env o) := by
  unfold stepD
  exact Le.ite (trun_le (guarded_le hc ops env o)) (Le.ite (qrun_le (guarded_le hc ops env o)) (Le.ite (Le.refl _) (guarded_le hc ops env o)))
theorem runDrawn_le (hc : ∀ f as, Le (call f as) (call' f as)) (ops : Array Oper) (n0 : Nat) : ∀ (l : List Oper) (i : Nat) (bs : List (Nat × Nat × Nat × V)) (env : Env) (K K' : Env → M R), (∀ env, Le (K env) (K' env)) →
    Le (runDrawn C call ops n0 l i bs env K) (runDrawn C call' ops n0 l i bs env K')
  | [], i, bs, env, K, K', hK => hK env
  | o :: l, i, bs, env, K, K', hK => fun H r h => by
    have e : ∀ (cl : FuncId → List V → M V) (Kx : Env → M R), runDrawn C cl ops n0 (o :: l) i bs env Kx H = if (conf ops i).all fun k => apartV (ptrAt bs k) (ptrOf C env o.op) then
        (stepD C cl ops n0 i bs env o H).bind fun x => runDrawn C cl ops n0 l (i + 1) ((i, H.next, x.2.next, ptrOf C env o.op) :: bs) (put env o.dst x.1) Kx x.2 else none := fun _ _ => rfl
    rw [e] at h ⊢
    split at h
    · rename_i hcf
      rw [if_pos hcf]
      cases hs : stepD C call ops n0 i bs env o H with
      | none => rw [hs] at h; cases h
      | some x =>
        rw [hs] at h
        rw [stepD_le hc ops n0 i bs env o H x hs]
        exact runDrawn_le hc ops n0 l _ _ _ K K' hK x.2 r h
    · cases h
theorem iter_le {F F' : List V → M R} (hF : ∀ s, Le (F s) (F' s)) : ∀ (n : Nat) (s : List V), Le (iter F n s) (iter F' n s)
  | 0, s => Le.refl _
  | n + 1, s => by
    have e : ∀ G : List V → M R, iter G (n + 1) s = M.bind (G s) fun r => match r.1 with | .normal => iter G n r.2 | _ => M.ret r := fun _ => rfl
    rw [e F, e F']
    refine Le.bind (hF s) fun r => ?_
    obtain ⟨ex, s'⟩ := r
    cases ex with
    | normal => exact iter_le hF n s'
    | exit j => exact Le.refl _
    | ret => exact Le.refl _
theorem iter_loop {F : List V → M R} (n : Nat) (s : List V) : Le (iter F n s) (loopV F s) := fun H r h => loopV_of h
theorem runK_le (hc : ∀ f as, Le (call f as) (call' f as)) (fuel : Nat) (T : List Nat) : ∀ (c : Code) (env : Env) (K K' : Ex → Env → M R), (∀ e env, Le (K e env) (K' e env)) → Le (runKc C call fuel T c env K) (runK C call' T c env K') := by
  intro c
  induction c with
  | region id ops draw =>
    intro env K K' hK
    cases draw with
    | false => exact runOps_le hc ops _ env _ _ (hK .normal)
    | true =>
      show Le (if orderOk ops then fun h => runDrawn C call ops h.next ops.toList 0 [] env (K .normal) h else M.fail) (if orderOk ops then fun h => runDrawn C call' ops h.next ops.toList 0 [] env (K' .normal) h else M.fail)
      refine Le.ite (fun H r h => ?_) (Le.refl _)
      exact runDrawn_le hc ops H.next _ 0 [] env _ _ (hK .normal) H r h
  | seq a b iha ihb =>
    intro env K K' hK
    refine iha env _ _ fun e env' => ?_
    cases e with
    | normal => exact ihb env' K K' hK
    | exit j => exact hK _ _
    | ret => exact hK _ _
  | cond o a b iha ihb => intro env K K' hK; exact Le.cond (iha env K K' hK) (ihb env K K' hK)
  | block id c ih =>
    intro env K K' hK
    refine ih env _ _ fun e env' => ?_
    cases e with
    | normal => exact hK _ _
    | exit j => exact Le.ite (hK _ _) (hK _ _)
    | ret => exact hK _ _
  | loop c ih =>
    intro env K K' hK
    refine Le.bind (fun H r h => iter_loop fuel _ H r (iter_le (fun s => ih _ _ _ fun e env' => Le.refl _) fuel _ H r h)) fun r => ?_
    cases r with
    | mk e s => cases e <;> first | exact Le.refl _ | exact hK _ _
  | _ =>
    intro env K K' hK
    first | exact hK _ _ | exact Le.fail _
theorem body_le (hc : ∀ f as, Le (call f as) (call' f as)) (fuel : Nat) (fn : Func) (c : Code) (args : List V) : Le (bodyVc C call fuel fn c args) (bodyV C call' fn c args) := by
  unfold bodyVc bodyV
  exact Le.ite (Le.bind (runK_le hc fuel _ c _ _ _ fun _ _ => Le.refl _) fun _ => Le.refl _) (Le.refl _)
theorem fn_le (hc : ∀ f as, Le (call f as) (call' f as)) (fuel : Nat) (f : FuncId) (args : List V) : Le (fnVc C call fuel f args) (fnV C call' f args) := by
  unfold fnVc fnV
  cases C.P.funcs[f]? with
  | none => exact Le.refl _
  | some fn =>
    simp only
    cases fn.body with
    | none => exact Le.refl _
    | some c => exact Le.ite (Le.refl _) (body_le hc fuel fn c args)
theorem sem_le (fuel : Nat) : ∀ (n : Nat) (f : FuncId) (args : List V), Le (semC C fuel n f args) (sem C n f args)
  | 0, f, args => Le.refl _
  | n + 1, f, args => fn_le (sem_le fuel n) fuel f args
end

/-- Does a call, played, answer true? -/
noncomputable def playsTrue (C : Cfg) (fuel n : Nat) (f : FuncId) (args : List V) : Bool := match semC C fuel n f args Heap.empty with
  | some (.bool true, _) => true
  | _ => false
theorem plays_true {C : Cfg} {fuel n : Nat} {f : FuncId} {args : List V} (h : playsTrue C fuel n f args = true) : ∃ H', sem C n f args Heap.empty = some (.bool true, H') := by
  unfold playsTrue at h
  cases e : semC C fuel n f args Heap.empty with
  | none => rw [e] at h; cases h
  | some x =>
    obtain ⟨v, H'⟩ := x
    rw [e] at h
    cases v with
    | bool b =>
      cases b with
      | true => exact ⟨H', sem_le fuel n f args _ _ e⟩
      | false => cases h
    | _ => cases h
end Go.Fv
