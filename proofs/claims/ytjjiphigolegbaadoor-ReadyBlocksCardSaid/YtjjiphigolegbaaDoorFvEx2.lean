/-
  errors.As at a variable of type *api.At, over sentinels, by its own text. By an AI agent; no person has read it.
-/
import Derived.Test.YtjjiphigolegbaaDoorFvEx
set_option linter.unusedVariables false
set_option linter.unusedSimpArgs false
set_option linter.unusedSectionVars false
/-! errors.As at a variable of type *api.At, over sentinels, by its own text. -/
namespace Go.Proofs.YtjjiphigolegbaaDoor
open Go Go.RowKit Go.Extern.Stop Go.Stop Go.Extern

set_option maxRecDepth 100000 in
/-- errors.As(nil, target). -/
theorem as_nil (t : Value) (w : World) :
    Calls Tryd.prog 116 #[.nilIface, t] w fun e w' => e = .returned (.bool false) ∧ w' = w := by
  go_enter Tryd.func116, Tryd.ntmps116
  go_wp2
  go_ret
  exact ⟨rfl, rfl⟩

theorem valueOf182 (t : Addr) (w : World) : (ReflectliteValue.unpack (.iface 182 (.pointer (some t)))).run Tryd.prog w
    = .ok (.agg #[.pointer (some ⟨24, 182, none⟩), .pointer (some ⟨w.heap.size, 0, none⟩), .int .u64 150]) (w.alloc (.cells #[.pointer (some t)] 182)) := by kernel_rfl
theorem type182 (a : Addr) (w : World) : (ReflectliteValue.methodAny (ReflectliteValue.valueError "reflectlite.Value.Type" 0) (fun t _ _ _ => ReflectliteType.toType t) #[.agg #[.pointer (some ⟨24, 182, none⟩), .pointer (some a), .int .u64 150]]).run Tryd.prog w
    = .ok (.iface 219 (.agg #[.pointer (some ⟨24, 182, none⟩)])) w := by kernel_rfl
theorem methodKind (h : Value) (w : World) : (Go.method 382 219 (.agg #[h]) "Kind").run Tryd.prog w = .ok (179, h) w := by kernel_rfl
theorem kind182 (w : World) : ((ReflectliteType.abiMethod fun t => (fun a : Nat => Value.int IntKind.u8 (a : Int)) <$> Rtype.kind t) #[.pointer (some ⟨24, 182, none⟩)]).run Tryd.prog w = .ok (.int .u8 22) w := by kernel_rfl
theorem kind180 (w : World) : ((ReflectliteType.abiMethod fun t => (fun a : Nat => Value.int IntKind.u8 (a : Int)) <$> Rtype.kind t) #[.pointer (some ⟨24, 180, none⟩)]).run Tryd.prog w = .ok (.int .u8 22) w := by kernel_rfl
theorem rlm (z : Sem Value) (f : TypeId → Addr → Nat → Nat → Sem Value) (v : Value) :
    ReflectliteValue.method z f #[v] = (do match ← ReflectliteValue.parts v with | none => z | some (t, a, fl) => f t a fl (fl % 32)) := rfl
theorem parts182 (a : Addr) (w : World) : (ReflectliteValue.parts (.agg #[.pointer (some ⟨24, 182, none⟩), .pointer (some a), .int .u64 150])).run Tryd.prog w = .ok (some (182, a, 150)) w := by kernel_rfl
theorem isNil182 (a p : Addr) (W : World) (ha : W.cell? a = some (.pointer (some p))) :
    (ReflectliteValue.method (ReflectliteValue.valueError "reflectlite.Value.IsNil" 0) ReflectliteValue.isNil #[.agg #[.pointer (some ⟨24, 182, none⟩), .pointer (some a), .int .u64 150]]).run Tryd.prog W = .ok (.bool false) W := by
  rw [rlm]
  simp only [Sem.run_bind, parts182, Result.andThen]
  simp [ReflectliteValue.isNil, loadVar, isAgg, underlying, Tryd.underlying182, ha, Result.andThen]
theorem methodElem (h : Value) (w : World) : (Go.method 382 219 (.agg #[h]) "Elem").run Tryd.prog w = .ok (191, .agg #[h]) w := by kernel_rfl
theorem methodImplements (h : Value) (w : World) : (Go.method 382 219 (.agg #[h]) "Implements").run Tryd.prog w = .ok (192, .agg #[h]) w := by kernel_rfl
theorem methodAssignableTo (h : Value) (w : World) : (Go.method 382 219 (.agg #[h]) "AssignableTo").run Tryd.prog w = .ok (189, .agg #[h]) w := by kernel_rfl
theorem elem182 (w : World) : (ReflectliteType.method ReflectliteType.elem #[.agg #[.pointer (some ⟨24, 182, none⟩)]]).run Tryd.prog w = .ok (.iface 219 (.agg #[.pointer (some ⟨24, 180, none⟩)])) w := by kernel_rfl
theorem implements180 (w : World) : (ReflectliteType.relation "Implements" ReflectliteType.implements_ #[.agg #[.pointer (some ⟨24, 180, none⟩)], .iface 219 (.agg #[.pointer (some ⟨24, 37, none⟩)])]).run Tryd.prog w = .ok (.bool true) w := by kernel_rfl
theorem assignable251 (w : World) : (ReflectliteType.relation "AssignableTo" ReflectliteType.assignableTo #[.agg #[.pointer (some ⟨24, 251, none⟩)], .iface 219 (.agg #[.pointer (some ⟨24, 180, none⟩)])]).run Tryd.prog w = .ok (.bool false) w := by kernel_rfl
theorem noAsE (v : Value) (xT : TypeId) (w : World) : (Instr.typeAssert (.iface 251 v) xT 231 true).run Tryd.prog w = .ok (.tuple #[.nilIface, .bool false]) w := run_typeAssert_lacksB Tryd.underlying231 (by kernel_rfl) (by kernel_rfl) v xT w

set_option maxRecDepth 100000 in
set_option maxHeartbeats 4000000 in
/-- errors.As(x, &a), x a pointer to an errors.errorString, a of type *api.At: false. -/
theorem as_miss (e t : Addr) (w : World) (hg : w.cell? ⟨20, 0, none⟩ = some (.iface 219 (.agg #[.pointer (some ⟨24, 37, none⟩)]))) :
    Calls Tryd.prog 116 #[.iface 251 (.pointer (some e)), .iface 182 (.pointer (some t))] w fun ev w' => ev = .returned (.bool false) ∧ ∃ o1 o2 o3, w' = ((w.alloc o1).alloc o2).alloc o3 := by
  have h6 := @run_callFunc_extern Tryd.prog 130 _ (fun args => ReflectliteValue.unpack (args.getD 0 (.tuple #[]))) Tryd.func130 (by kernel_rfl) (by kernel_rfl) (by kernel_rfl) (by kernel_rfl)
  have h7 := @run_callFunc_extern Tryd.prog 131 _ (ReflectliteValue.methodAny (ReflectliteValue.valueError "reflectlite.Value.Type" 0) (fun t _ _ _ => ReflectliteType.toType t)) Tryd.func131 (by kernel_rfl) (by kernel_rfl) (by kernel_rfl) (by kernel_rfl)
  have h8 := @run_callFunc_extern Tryd.prog 132 _ (ReflectliteValue.method (ReflectliteValue.valueError "reflectlite.Value.IsNil" 0) ReflectliteValue.isNil) Tryd.func132 (by kernel_rfl) (by kernel_rfl) (by kernel_rfl) (by kernel_rfl)
  have h27 := @run_callFunc_extern Tryd.prog 179 _ (ReflectliteType.abiMethod fun t => do pure (.int .u8 (← Rtype.kind t))) Tryd.func179 (by kernel_rfl) (by kernel_rfl) (by kernel_rfl) (by kernel_rfl)
  have h37 := @run_callFunc_extern Tryd.prog 191 _ (ReflectliteType.method ReflectliteType.elem) Tryd.func191 (by kernel_rfl) (by kernel_rfl) (by kernel_rfl) (by kernel_rfl)
  have h38 := @run_callFunc_extern Tryd.prog 192 _ (ReflectliteType.relation "Implements" ReflectliteType.implements_) Tryd.func192 (by kernel_rfl) (by kernel_rfl) (by kernel_rfl) (by kernel_rfl)
  have h10 := @run_callFunc_extern Tryd.prog 128 _ ReflectliteType.typeOf Tryd.func128 (by kernel_rfl) (by kernel_rfl) (by kernel_rfl) (by kernel_rfl)
  have h35 := @run_callFunc_extern Tryd.prog 189 _ (ReflectliteType.relation "AssignableTo" ReflectliteType.assignableTo) Tryd.func189 (by kernel_rfl) (by kernel_rfl) (by kernel_rfl) (by kernel_rfl)
  have tO := isTypeOf
  have mA := methodAssignableTo
  have a25 := assignable251
  have f6 := valueOf182
  have f7 := type182
  have mK := methodKind
  have mE := methodElem
  have mI := methodImplements
  have k27 := kind182
  have k25 := kind180
  have e27 := elem182
  have i25 := implements180
  have nA := noAsE
  have uE := noUnwrapE
  have vE := noUnwrapsE
  have n8 := isNil182 ⟨w.heap.size, 0, none⟩ t ((w.alloc (.cells #[.pointer (some t)] 182)).alloc (.cells #[.pointer (some ⟨24, 182, none⟩), .pointer (some ⟨w.heap.size, 0, none⟩), .int .u64 150] 200)) (by simp)
  have hlt : 20 < w.heap.size := World.block_lt_of_cell? w _ hg
  have hg2 : ((w.alloc (.cells #[.pointer (some t)] 182)).alloc (.cells #[.pointer (some ⟨24, 182, none⟩), .pointer (some ⟨w.heap.size, 0, none⟩), .int .u64 150] 200)).cell? ⟨20, 0, none⟩ = some (.iface 219 (.agg #[.pointer (some ⟨24, 37, none⟩)])) := by
    rw [World.cell?_alloc_lt _ _ ⟨20, 0, none⟩ (by simp; omega), World.cell?_alloc_lt _ _ ⟨20, 0, none⟩ hlt]; exact hg
  go_enter Tryd.func116, Tryd.ntmps116
  go_wp2
  refine wp_loop_rounds 1 ?_
  rw [rounds_succ]
  go_wp2
  go_ret
  exact ⟨rfl, _, _, _, rfl⟩
end Go.Proofs.YtjjiphigolegbaaDoor
