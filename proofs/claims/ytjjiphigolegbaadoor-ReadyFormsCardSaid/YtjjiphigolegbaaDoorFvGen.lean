/-
  From the program's functions to shallow terms. By an AI agent; no person has read it.
-/
import Derived.Test.YtjjiphigolegbaaDoorFvCore
import Derived.KernelRfl
set_option linter.unusedVariables false
set_option linter.unusedSimpArgs false
set_option linter.unusedSectionVars false
/-! From the program's functions to shallow terms. -/
namespace Go.Fv
open Go

theorem fnV_at {C : Cfg} {n : Nat} {f : FuncId} {fn : Func} {c : Code} (hf : C.P.funcs[f]? = some fn) (hb : fn.body = some c) (hn : decide (fn.name = "runtime.NumGoroutine") = false) (args : List V) :
    sem C (n + 1) f args = bodyV C (sem C n) fn c args := by
  show fnV C (sem C n) f args = _
  unfold fnV
  rw [hf]
  simp only
  rw [hb]
  simp only
  rw [if_neg (of_decide_eq_false hn)]

section
variable {α β γ : Type}
def getN : M Nat := fun h => some (h.next, h)
def guardM (c : Bool) (m : M α) : M α := fun h => if c = true then m h else none
theorem bind_ap (m : M α) (f : α → M β) (h : Heap) : M.bind m f h = (m h).bind fun x => f x.1 x.2 := rfl
theorem ret_ap (a : α) (h : Heap) : M.ret a h = some (a, h) := rfl
theorem lift_ap (o : Option α) (h : Heap) : M.lift o h = o.bind fun a => some (a, h) := rfl
theorem fail_ap (h : Heap) : (M.fail : M α) h = none := rfl
theorem ret_bind (a : α) (f : α → M β) : M.bind (M.ret a) f = f a := rfl
theorem bind_bind (m : M α) (f : α → M β) (g : β → M γ) : M.bind (M.bind m f) g = M.bind m fun x => M.bind (f x) g := by
  funext h
  simp only [M.bind, Option.bind_assoc]
theorem lift_some_bind (a : α) (f : α → M β) : M.bind (M.lift (some a)) f = f a := rfl
theorem fail_bind (f : α → M β) : M.bind M.fail f = M.fail := rfl
theorem lift_none : (M.lift none : M α) = M.fail := rfl
theorem lift_some (a : α) : M.lift (some a) = M.ret a := rfl
theorem guardV_true (b : Bool) (m : M V) : guardV (.bool b) true m = if b = true then m else M.ret (.tuple []) := rfl
theorem guardV_false (b : Bool) (m : M V) : guardV (.bool b) false m = if b = false then m else M.ret (.tuple []) := rfl
theorem condV_bool (b : Bool) (x y : M α) : condV (.bool b) x y = if b then x else y := rfl
theorem pickV_bool (b : Bool) (x y : V) : pickV (.bool b) x y = some (if b then x else y) := rfl

/-! ### Loops -/
theorem iter_det (F : List V → M R) : ∀ n m s h r r', iter F n s h = some r → iter F m s h = some r' → r = r'
  | 0, _, _, _, _, _, h, _ => by cases h
  | _ + 1, 0, _, _, _, _, _, h => by cases h
  | n + 1, m + 1, s, h, r, r', h1, h2 => by
    simp only [iter, M.bind] at h1 h2
    cases hF : F s h with
    | none => rw [hF] at h1; cases h1
    | some x =>
      rw [hF] at h1 h2
      simp only [Option.bind_some] at h1 h2
      obtain ⟨⟨e, s'⟩, h'⟩ := x
      cases e with
      | normal => exact iter_det F n m s' h' r r' h1 h2
      | exit j => exact Option.some.inj (h1.symm.trans h2)
      | ret => exact Option.some.inj (h1.symm.trans h2)

theorem loopV_of {F : List V → M R} {n : Nat} {s : List V} {h : Heap} {r : R × Heap} (hi : iter F n s h = some r) : loopV F s h = some r := by
  unfold loopV
  have hx : ∃ n r, iter F n s h = some r := ⟨n, r, hi⟩
  rw [dif_pos hx]
  exact congrArg some (iter_det F _ _ _ _ _ _ hx.choose_spec.choose_spec hi)

theorem iter_of {F : List V → M R} {s : List V} {h : Heap} {r : R × Heap} (hl : loopV F s h = some r) : ∃ n, iter F n s h = some r := by
  unfold loopV at hl
  split at hl
  · rename_i hx
    have := hx.choose_spec.choose_spec
    injection hl with hl
    exact ⟨_, this.trans (by rw [hl])⟩
  · cases hl

/-- One round that goes on. -/
theorem loopV_next {F : List V → M R} {s s' : List V} {h h' : Heap} (hF : F s h = some ((.normal, s'), h')) : loopV F s h = loopV F s' h' := by
  have step : ∀ n, iter F (n + 1) s h = iter F n s' h' := fun n => by
    simp only [iter, M.bind, hF, Option.bind_some]
  cases hl : loopV F s' h' with
  | some r =>
    obtain ⟨n, hn⟩ := iter_of hl
    exact loopV_of ((step n).trans hn)
  | none =>
    cases hl2 : loopV F s h with
    | none => rfl
    | some r =>
      obtain ⟨n, hn⟩ := iter_of hl2
      cases n with
      | zero => cases hn
      | succ n => rw [step n] at hn; rw [loopV_of hn] at hl; cases hl
theorem loopV_exit {F : List V → M R} {s s' : List V} {h h' : Heap} {j : Nat} (hF : F s h = some ((.exit j, s'), h')) : loopV F s h = some ((.exit j, s'), h') :=
  loopV_of (n := 1) (by simp only [iter, M.bind, hF, Option.bind_some, M.ret])
theorem loopV_ret {F : List V → M R} {s s' : List V} {h h' : Heap} (hF : F s h = some ((.ret, s'), h')) : loopV F s h = some ((.ret, s'), h') :=
  loopV_of (n := 1) (by simp only [iter, M.bind, hF, Option.bind_some, M.ret])
end
end Go.Fv
