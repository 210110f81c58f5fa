/-
  errors.Is and errors.As stand for their plain meaning. By an AI agent; no person has read it.
-/
import Derived.Test.YtjjiphigolegbaaDoorFvEx2
import Derived.Test.YtjjiphigolegbaaDoorFvCf
import Derived.Test.YtjjiphigolegbaaDoorFvW4
set_option linter.unusedVariables false
set_option linter.unusedSimpArgs false
set_option linter.unusedSectionVars false
/-! errors.Is and errors.As stand for their plain meaning. -/
namespace Go.Proofs.YtjjiphigolegbaaDoor
open Go Go.Fv Go.Fv.Tr

theorem mixed : Tryd.prog.follows .mixedOrders = true := by kernel_rfl
theorem callable {f : FuncId} {fn : Func} (h : Tryd.prog.funcs[f]? = some fn) (hb : fn.body.isSome = true) (hn : decide (fn.name = "runtime.NumGoroutine") = false) : Callable Tryd.prog f := ⟨fn, h, hb, of_decide_eq_false hn⟩
theorem args2 {σ : Nat → Addr} {K : Ctx} {w : World} {a b : V} {xs : Array Value} (h : ArgsRel σ K w [a, b] xs) : ∃ x y, xs = #[x, y] ∧ Rel σ K w a x ∧ Rel σ K w b y := by
  obtain ⟨hl, hr⟩ := h
  have hs : xs.size = 2 := hl.symm
  have e : xs = #[xs[0], xs[1]] := by
    apply Array.ext
    · simpa using hs
    · intro i h1 h2
      have : i = 0 ∨ i = 1 := by
        have : i < 2 := by omega
        omega
      rcases this with rfl | rfl <;> rfl
  exact ⟨xs[0], xs[1], e, hr 0 a xs[0] rfl (Array.getElem?_eq_getElem _), hr 1 b xs[1] rfl (Array.getElem?_eq_getElem _)⟩

/-- Different sentinels lie at different places. -/
def Apart (G : Nat → Option (List V)) (σ : Nat → Addr) : Prop := ∀ i j, sentOf G i = true → sentOf G j = true → i ≠ j → σ i ≠ σ j

theorem is_sound {G : Nat → Option (List V)} {σ : Nat → Addr} (hσ : Apart G σ) : SoundF (cfg G) σ 114 fun args => M.lift (extX G 114 args) := by
  intro K H w vs xs v H' inv gl ar h
  refine ⟨callable Tryd.func114 (by kernel_rfl) (by kernel_rfl), ?_⟩
  have h0 : extX G 114 vs = isX G vs := if_pos rfl
  have hx : isX G vs = some v ∧ H' = H := by
    rw [← h0]
    cases e : extX G 114 vs with
    | none => simp only [M.lift, e] at h; cases h
    | some u => simp only [M.lift, e, Option.bind_some] at h; cases h; exact ⟨rfl, rfl⟩
  obtain ⟨hx, rfl⟩ := hx
  have same : ∀ b, v = .bool b → ∀ (e : Ending) w', (e = .returned (.bool b) ∧ w' = w) → ∃ x, e = .returned x ∧ Leads (cfg G) σ K H' w v H' x w' := by
    rintro b rfl e w' ⟨rfl, rfl⟩
    exact ⟨_, rfl, leads_same inv (.bool b)⟩
  unfold isX at hx
  split at hx
  · rename_i j
    cases hx
    obtain ⟨x, y, rfl, r1, r2⟩ := args2 ar
    cases r1
    cases r2 with
    | iface t u y hc hr =>
      cases hr
      exact (is_nil (σ j) w).mono (same false rfl)
  · rename_i i j
    obtain ⟨x, y, rfl, r1, r2⟩ := args2 ar
    cases r1 with
    | iface t u x' hc1 hr1 =>
      cases hr1
      cases r2 with
      | iface t2 u2 y' hc2 hr2 =>
        cases hr2
        split at hx
        · rename_i e
          have e : i = j := by simpa using e
          subst e
          cases hx
          exact (is_same (σ i) w).mono (same true rfl)
        · rename_i hne
          split at hx
          · rename_i hs
            rw [Bool.and_eq_true] at hs
            cases hx
            obtain ⟨_, c1, t1, h1⟩ := gl.s i hs.1
            obtain ⟨_, c2, t2, h2⟩ := gl.s j hs.2
            exact (is_other (σ i) (σ j) c1 c2 t1 t2 w (hσ i j hs.1 hs.2 (by simpa using hne)) h1 h2).mono (same false rfl)
          · cases hx
  · cases hx

theorem as_sound {G : Nat → Option (List V)} {σ : Nat → Addr} : SoundF (cfg G) σ 116 fun args => M.lift (extX G 116 args) := by
  intro K H w vs xs v H' inv gl ar h
  refine ⟨callable Tryd.func116 (by kernel_rfl) (by kernel_rfl), ?_⟩
  have h0 : extX G 116 vs = asX G vs := by unfold extX; rw [if_neg (by decide), if_pos rfl]
  have hx : asX G vs = some v ∧ H' = H := by
    rw [← h0]
    cases e : extX G 116 vs with
    | none => simp only [M.lift, e] at h; cases h
    | some u => simp only [M.lift, e, Option.bind_some] at h; cases h; exact ⟨rfl, rfl⟩
  obtain ⟨hx, rfl⟩ := hx
  unfold asX at hx
  split at hx
  · cases hx
    obtain ⟨x, y, rfl, r1, r2⟩ := args2 ar
    cases r1
    refine (as_nil y w).mono fun e w' ⟨h1, h2⟩ => ?_
    subst h1; subst h2
    exact ⟨_, rfl, leads_same inv (.bool false)⟩
  · split at hx
    · rename_i hh
      cases hx
      obtain ⟨x, y, rfl, r1, r2⟩ := args2 ar
      have hz : w.cell? ⟨20, 0, none⟩ = some (.iface 219 (.agg #[.pointer (some ⟨24, 37, none⟩)])) := (gl.z 20 _ (by show (if 20 = 20 ∧ handOf G = true then _ else _) = _; rw [if_pos ⟨rfl, hh⟩])).2
      cases r1 with
      | iface t u x' hc1 hr1 =>
        cases hr1
        cases r2 with
        | iface t2 u2 y' hc2 hr2 =>
          cases hr2
          refine (as_miss _ _ w hz).mono fun e w' ⟨h1, o1, o2, o3, h2⟩ => ?_
          subst h1; subst h2
          obtain ⟨i1, e1⟩ := inv.junk o1
          obtain ⟨i2, e2⟩ := i1.junk o2
          obtain ⟨i3, e3⟩ := i2.junk o3
          exact ⟨_, rfl, K, .bool false, i3, Evo.trans inv i2 (Evo.trans inv i1 e1 e2) e3⟩
    · cases hx
  · cases hx

theorem good {G : Nat → Option (List V)} {σ : Nat → Addr} (hσ : Apart G σ) : Fv.Good (cfg G) σ := ⟨mixed, fun f hf => by
  have : kindOf f = .ext := hf
  unfold kindOf at this
  split at this
  · rename_i he
    have he : f = 114 ∨ f = 116 := by simpa [exts] using he
    rcases he with rfl | rfl
    · exact is_sound hσ
    · exact as_sound
  · split at this
    · cases this
    · split at this <;> cases this⟩
end Go.Proofs.YtjjiphigolegbaaDoor
