/-
  What the seat's laws share: closed facts, the arguments' shapes, a world in which the listed variables are laid. By an AI agent; no person has read it.
-/
import Derived.Test.YtgcjnpfidjfmmaaGreatDoorFvW4
import Derived.Test.YtgcjnpfidjfmmaaGreatDoorFvCf
import Derived.Test.YtgcjnpfidjfmmaaGreatDoorFvStr
import Derived.Test.YtgcjnpfidjfmmaaGreatDoorRows
import Derived.Test.YtgcjnpfidjfmmaaGreatDoorTie
import Derived.Test.YtgcjnpfidjfmmaaGreatDoorCards
import Derived.ChangeSame
import Derived.ChangeVars
import Derived.JoinedOf
import Derived.RowKit
import Derived.RowKitTokens
import Derived.LaidLaws
import Derived.LaidHandle
import Derived.Stop.Joined
import Derived.SevenTiedAt
set_option linter.unusedVariables false
set_option linter.unusedSimpArgs false
set_option linter.unusedSectionVars false
/-! What the seat's laws share: closed facts, the arguments' shapes, a world in which the listed variables are laid. -/
namespace Go.Proofs.YtgcjnpfidjfmmaaGreatDoor
open Go Go.Fv Go.Fv.Tr Go.ChangeShapes Go.WideShapes Go.RowKit

theorem own : ownKnob Tryz.prog.godebug = none := by kernel_rfl
theorem kids : Kids Tryz.prog (· < Tryz.prog.types.size) := kids_rows (by kernel_rfl) (by kernel_rfl)
theorem full : ∀ t e, t < Tryz.prog.types.size → Tryz.prog.underlying t = some (.slice e) → 0 < Tryz.prog.cellsOf e := slices_full_of Tryz.prog (by kernel_rfl)
theorem mixed : Tryz.prog.follows .mixedOrders = true := by kernel_rfl
def G0 : Nat → Option (List V) := fun _ => none
theorem kind_no {f : FuncId} {k : Kind} (h : kindOf f = k) : k = .pure ∨ k = .own ∨ k = .inl := by
  unfold kindOf at h
  by_cases h1 : pures.contains f = true
  · rw [if_pos h1] at h; exact .inl h.symm
  rw [if_neg h1] at h
  by_cases h2 : owns.contains f = true
  · rw [if_pos h2] at h; exact .inr (.inl h.symm)
  rw [if_neg h2] at h
  exact .inr (.inr h.symm)
theorem good0 {σ : Nat → Addr} : Fv.Good (cfg G0) σ :=
  ⟨mixed, fun f hf => (by rcases kind_no hf with h | h | h <;> cases h), fun f hf => (by rcases kind_no hf with h | h | h <;> cases h), fun f hf => (by rcases kind_no hf with h | h | h <;> cases h)⟩
abbrev laid0 : List (String × DataW Unit) := [("ferry/api.ErrRange", Rows.laid_ferry_api_ErrRange), ("ferry/api.ErrKind", Rows.laid_ferry_api_ErrKind), ("ferry/api.ErrPlan", Rows.laid_ferry_api_ErrPlan), ("ferry/api.ErrState", Rows.laid_ferry_api_ErrState), ("ferry/api.ErrSize", Rows.laid_ferry_api_ErrSize), ("ferry/api.ErrArg", Rows.laid_ferry_api_ErrArg), ("ferry/api.ErrBusy", Rows.laid_ferry_api_ErrBusy), ("ferry/api.ErrNone", Rows.laid_ferry_api_ErrNone)]
theorem glob0 {W : World} (_ : laidMetH Tryz.prog laid0 W) : ∃ σ, True ∧ GlobOk (cfg G0) σ (K0 W) W :=
  ⟨fun _ => ⟨0, 0, none⟩, trivial, ⟨fun g row hg => (by cases hg), fun k hk => (by cases hk), fun g v hg => (by cases hg), fun g cs hg => (by cases hg)⟩⟩
def txt (g : Nat) : List UInt8 := if g = 0 then [97, 32, 119, 114, 111, 110, 103, 32, 97, 114, 103, 117, 109, 101, 110, 116] else if g = 1 then [116, 104, 101, 32, 115, 116, 97, 116, 101, 32, 98, 114, 101, 97, 107, 115, 32, 97, 32, 114, 117, 108, 101] else if g = 2 then [116, 104, 101, 114, 101, 32, 105, 115, 32, 110, 111, 110, 101] else if g = 3 then [110, 111, 32, 115, 117, 99, 104, 32, 107, 105, 110, 100] else if g = 4 then [110, 111, 116, 32, 111, 102, 32, 116, 104, 105, 115, 32, 112, 108, 97, 110] else if g = 5 then [116, 111, 111, 32, 108, 97, 114, 103, 101] else if g = 6 then [115, 111, 109, 101, 116, 104, 105, 110, 103, 32, 105, 115, 32, 117, 110, 100, 101, 114, 32, 119, 97, 121] else if g = 7 then [97, 32, 110, 117, 109, 98, 101, 114, 32, 111, 117, 116, 32, 111, 102, 32, 105, 116, 115, 32, 114, 97, 110, 103, 101] else []
noncomputable def low0 : Nat := (World.holding Tryz.prog default ⟨#[], #[], []⟩).heap.size
def pos0 (i : Nat) : Option Nat := if i = 0 then some 0 else if i = 1 then some 1 else if i = 2 then some 2 else if i = 3 then some 3 else if i = 4 then some 4 else if i = 5 then some 5 else if i = 6 then some 6 else if i = 7 then some 7 else none
/-- A world in which all are laid. -/
noncomputable def laidWorld0 (os : Os) : World :=
  let w0 := World.holding Tryz.prog os ⟨(([0, 1, 2, 3, 4, 5, 6, 7] : List Nat).map fun g => Obj.cells #[.string ⟨(txt g).toArray⟩] 191 (0, 0)).toArray, #[], []⟩
  { w0 with heap := ((List.range w0.heap.size).map fun i => match w0.heap.getD i default with
      | .cells cs t frozen => (match pos0 i with | some k => .cells #[.iface 172 (.pointer (some ⟨low0 + k, 0, none⟩))] t frozen | none => .cells cs t frozen)
      | o => o).toArray }
theorem laid_met0 (os : Os) (args : Array Value) : laidMetH Tryz.prog laid0 ((laidWorld0 os).forCall (fun _ _ => 0) ⟨#[], args, []⟩).memory :=
  show laidMet _ _ _ from laidMet_of_run (ps := [.cell 7 0, .cell (low0 + 7) 0, .cell 3 0, .cell (low0 + 3) 0, .cell 4 0, .cell (low0 + 4) 0, .cell 1 0, .cell (low0 + 1) 0, .cell 5 0, .cell (low0 + 5) 0, .cell 0 0, .cell (low0 + 0) 0, .cell 6 0, .cell (low0 + 6) 0, .cell 2 0, .cell (low0 + 2) 0]) 8 (by kernel_rfl) (by kernel_rfl) (by kernel_rfl)

section
variable {P : Program} {n : Nat}
theorem shs1 {t1 : TypeId} {xs : List V} (h : Shs P n [t1] xs) : ∃ a, xs = [a] ∧ ∃ l, Sh P n t1 l ∧ a = argV P t1 l := by
  cases xs with
  | nil => exact h.elim
  | cons a xs => cases xs with
    | nil => exact ⟨a, rfl, h.1⟩
    | cons b xs => exact h.2.elim
theorem shs2 {t1 t2 : TypeId} {xs : List V} (h : Shs P n [t1, t2] xs) : ∃ a b, xs = [a, b] ∧ (∃ l, Sh P n t1 l ∧ a = argV P t1 l) ∧ ∃ l, Sh P n t2 l ∧ b = argV P t2 l := by
  cases xs with
  | nil => exact h.elim
  | cons a xs =>
    obtain ⟨b, rfl, h2⟩ := shs1 (P := P) (n := n) (t1 := t2) (xs := xs) h.2
    exact ⟨a, b, rfl, h.1, h2⟩
end
set_option maxRecDepth 100000 in
theorem sh_i {n : Nat} {l : List V} (h : Sh Tryz.prog (n + 1) 3 l) : ∃ m : Int, l = [.int .i64 m] ∧ (Lit.int .i64 m).wf = true := by
  obtain ⟨m, hm, rfl⟩ := sh_int Tryz.underlying3 h
  exact ⟨m, rfl, hm⟩
set_option maxRecDepth 100000 in
theorem sh_s {n : Nat} {l : List V} (h : Sh Tryz.prog (n + 1) 9 l) : ∃ s : ByteArray, l = [.str s] ∧ s.size ≤ reachBytes := by
  obtain ⟨s, hs, rfl⟩ := sh_str Tryz.underlying9 h
  exact ⟨s, rfl, hs⟩
theorem argVI (x : V) : argV Tryz.prog 3 [x] = x := by
  unfold argV
  rw [Tryz.underlying3]
  rfl
theorem argVS (x : V) : argV Tryz.prog 9 [x] = x := by
  unfold argV
  rw [Tryz.underlying9]
  rfl
theorem inI : inTy Tryz.prog 5 3 = true := by kernel_rfl
theorem inS : inTy Tryz.prog 5 9 = true := by kernel_rfl
end Go.Proofs.YtgcjnpfidjfmmaaGreatDoor
