/-
  The shapes of numbers as arguments; the errors that the texts name, as laid. By an AI agent; no person has read it.
-/
import Derived.Test.YtekncgjkocgioaaGreatDoorFvP22
import Derived.Test.YtekncgjkocgioaaGreatDoorFvP43
set_option linter.unusedVariables false
set_option linter.unusedSimpArgs false
set_option linter.unusedSectionVars false
/-! The shapes of numbers as arguments; the errors that the texts name, as laid. -/
namespace Go.Fv.Tr
open Go Go.Fv Go.Proofs
set_option maxRecDepth 100000
noncomputable def CC := cfg GX
theorem rulesC (call : CV) (x0 : V) : fnVc CC call 100 104 [x0] = outV (ferry_valid_asked_rules GX call x0) := by kernel_rfl
noncomputable def ovR : FuncId → (FuncId → List V → M V) → List V → Option (M V) := fun f call args => if f = 104 then (match args with | [x0] => some (outV (ferry_valid_asked_rules GX call x0)) | _ => none) else none
theorem ovR_ok:OvOk CC 100 ovR:=fun f call args m h => by
 unfold ovR at h
 split at h
 ·rename_i e
  subst e
  split at h
  ·injection h with h
   rw [← h,rulesC]
  ·cases h
 ·cases h
theorem knownX : playsTrueO CC ovR 100 13 8 [] = true := by kernel_rfl
theorem known_run:callV (cfg GX) (sem (cfg GX) 13) 8 [] = M.ret (.bool true):=by
 obtain ⟨H',e⟩:=plays_trueO ovR_ok knownX
 exact callV_pure0 rfl rfl rfl ⟨_,H',e,rfl⟩
end Go.Fv.Tr
namespace Go.Proofs.YtekncgjkocgioaaGreatDoor
open Go Go.Fv Go.Fv.Tr Go.ChangeShapes Go.WideShapes Go.RowKit
section
variable {P : Program} {n : Nat}
theorem shs1 {t1 : TypeId} {xs : List V} (h : Shs P n [t1] xs) : ∃ a, xs = [a] ∧ ∃ l, Sh P n t1 l ∧ a = argV P t1 l := by
  cases xs with
  | nil => exact h.elim
  | cons a xs => cases xs with
    | nil => exact ⟨a, rfl, h.1⟩
    | cons b xs => exact h.2.elim
theorem shs2 {t1 t2 : TypeId} {xs : List V} (h : Shs P n [t1, t2] xs) : ∃ a b, xs = [a, b] ∧ (∃ l, Sh P n t1 l ∧ a = argV P t1 l) ∧ ∃ l, Sh P n t2 l ∧ b = argV P t2 l := by
  cases xs with
  | nil => exact h.elim
  | cons a xs =>
    obtain ⟨b, rfl, h2⟩ := shs1 (P := P) (n := n) (t1 := t2) (xs := xs) h.2
    exact ⟨a, b, rfl, h.1, h2⟩
end
set_option maxRecDepth 100000 in
theorem sh_i {n:Nat} {l:List V} (h:Sh Tryz.prog (n + 1) 3 l):∃ m:Int,l = [.int .i64 m] ∧ (Lit.int .i64 m).wf = true:=by
 obtain ⟨m,hm,rfl⟩:=sh_int Tryz.underlying3 h
 exact ⟨m,rfl,hm⟩
set_option maxRecDepth 100000 in
theorem sh_u {n:Nat} {l:List V} (h:Sh Tryz.prog (n + 1) 40 l):∃ m:Int,l = [.int .u32 m] ∧ Sy.RegOk m:=by
 obtain ⟨m,hm,rfl⟩:=sh_int Tryz.underlying40 h
 refine ⟨m,rfl,?_⟩
 unfold Lit.wf IntKind.min IntKind.max at hm
 simp [IntKind.signed,IntKind.bits] at hm
 exact ⟨by omega,by omega⟩
theorem argVI (x:V):argV Tryz.prog 3 [x] = x:=by
 unfold argV
 rw [Tryz.underlying3]
 rfl
theorem argVU (x:V):argV Tryz.prog 40 [x] = x:=by
 unfold argV
 rw [Tryz.underlying40]
 rfl
theorem inI : inTy Tryz.prog 5 3 = true := by kernel_rfl
theorem inU : inTy Tryz.prog 5 40 = true := by kernel_rfl
theorem berrsX:Sy.BErrs GX:=⟨fun g h => by
 have h':laidL.contains g = true:=by
  unfold Sy.isB at h
  simp [Sy.sentB] at h
  rcases h with rfl | rfl | rfl | rfl | rfl | rfl | rfl | rfl | rfl <;> rfl
 unfold GX
 rw [if_pos h']⟩
end Go.Proofs.YtekncgjkocgioaaGreatDoor
