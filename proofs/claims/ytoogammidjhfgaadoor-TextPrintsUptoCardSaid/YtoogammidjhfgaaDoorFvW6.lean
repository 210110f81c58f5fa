/-
  errors.Is over sentinels, by its own text. errors.As at a variable of type *api.At, over sentinels, by its own text. errors.As and errors.Is over an *api.At. errors.Is and errors.As stand for their plain meaning. errors.Is and errors.As, over an *api.At too, stand for their plain meaning. By an AI agent; no person has read it.
-/
import Derived.Test.YtoogammidjhfgaaDoorChecked
import Derived.WalkKit
import Derived.LaidEql
import Derived.Stop.Asserts
import Derived.RowKitTokens
import Derived.Test.YtoogammidjhfgaaDoorFvCf
import Derived.Test.YtoogammidjhfgaaDoorFvW4
set_option linter.unusedVariables false
set_option linter.unusedSimpArgs false
set_option linter.unusedSectionVars false
/-! errors.Is over sentinels, by its own text. -/
namespace Go.Proofs.YtoogammidjhfgaaDoor
open Go Go.RowKit Go.Extern.Stop Go.Stop Go.Extern

theorem isTypeOf (v : Value) (w : World) : (Extern.ReflectliteType.typeOf #[.iface 341 v]).run Tryd.prog w = .ok (.iface 294 (.agg #[.pointer (some ⟨25, 341, none⟩)])) w := by kernel_rfl
theorem isComparable (w : World) : ((Extern.ReflectliteType.method fun t => do Go.Extern.Rtype.noPackHeld "Comparable" t; (fun a => Value.bool a.comparable) <$> typeInfo t) #[.agg #[.pointer (some ⟨25, 341, none⟩)]]).run Tryd.prog w = .ok (.bool true) w := by kernel_rfl
theorem isMethodComparable (v : Value) (w : World) : (Go.method 472 294 v "Comparable").run Tryd.prog w = .ok (239, v) w := by kernel_rfl
theorem isComp : (Tryd.prog.info? 341).map (·.comparable) = some true := by kernel_rfl
theorem isSize : (Tryd.prog.info? 360).map (·.size) = some 1 := by kernel_rfl
theorem noIsE (v : Value) (xT : TypeId) (w : World) : (Instr.typeAssert (.iface 341 v) xT 296 true).run Tryd.prog w = .ok (.tuple #[.nilIface, .bool false]) w := run_typeAssert_lacksB Tryd.underlying296 (by kernel_rfl) (by kernel_rfl) v xT w
theorem noUnwrapE (v : Value) (xT : TypeId) (w : World) : (Instr.typeAssert (.iface 341 v) xT 299 true).run Tryd.prog w = .ok (.tuple #[.nilIface, .bool false]) w := run_typeAssert_lacksB Tryd.underlying299 (by kernel_rfl) (by kernel_rfl) v xT w
theorem noUnwrapsE (v : Value) (xT : TypeId) (w : World) : (Instr.typeAssert (.iface 341 v) xT 301 true).run Tryd.prog w = .ok (.tuple #[.nilIface, .bool false]) w := run_typeAssert_lacksB Tryd.underlying301 (by kernel_rfl) (by kernel_rfl) v xT w

set_option maxRecDepth 100000 in
set_option maxHeartbeats 1000000 in
/-- errors.Is(x, x), x a pointer to an errors.errorString. -/
theorem is_same (a : Addr) (w : World) :
    Calls Tryd.prog 86 #[.iface 341 (.pointer (some a)), .iface 341 (.pointer (some a))] w fun e w' => e = .returned (.bool true) ∧ w' = w := by
  obtain ⟨i, hi, hcmp⟩ := Option.map_eq_some_iff.1 isComp
  obtain ⟨j, hj, hjs⟩ := Option.map_eq_some_iff.1 isSize
  have h8 := @run_callFunc_extern Tryd.prog 141 _ Extern.ReflectliteType.typeOf Tryd.func141 (by kernel_rfl) (by kernel_rfl) (by kernel_rfl) (by kernel_rfl)
  have h32 := @run_callFunc_extern Tryd.prog 239 _ (Extern.ReflectliteType.method fun t => do Go.Extern.Rtype.noPackHeld "Comparable" t; pure (.bool (← typeInfo t).comparable)) Tryd.func239 (by kernel_rfl) (by kernel_rfl) (by kernel_rfl) (by kernel_rfl)
  have tT := isTypeOf
  have cT := isComparable
  have mR := isMethodComparable
  have heq := run_eql_iface_ptr_same (P := Tryd.prog) w a Tryd.underlying69 Tryd.underlying341 hi hcmp hj
  go_enter Tryd.func86, Tryd.ntmps86
  go_wp2
  refine wp_loop_rounds 1 ?_
  rw [rounds_succ]
  go_wp2
  go_ret
  exact ⟨rfl, rfl⟩

set_option maxRecDepth 100000 in
set_option maxHeartbeats 1000000 in
/-- errors.Is(nil, x). -/
theorem is_nil (b : Addr) (w : World) :
    Calls Tryd.prog 86 #[.nilIface, .iface 341 (.pointer (some b))] w fun e w' => e = .returned (.bool false) ∧ w' = w := by
  have hn := run_eql_iface_nil_left (P := Tryd.prog) w 341 (.pointer (some b)) Tryd.underlying69
  go_enter Tryd.func86, Tryd.ntmps86
  go_wp2
  go_ret
  exact ⟨rfl, rfl⟩

set_option maxRecDepth 100000 in
set_option maxHeartbeats 1000000 in
/-- errors.Is(x, y), two different pointers to errors.errorString: neither has Is nor Unwrap: false. -/
theorem is_other (a b : Addr) (ca cb : Array Value) (ta tb : TypeId) (w : World) (hne : a ≠ b) (ha : w.heap[a.block]? = some (.cells ca ta (0, 0))) (hb : w.heap[b.block]? = some (.cells cb tb (0, 0))) :
    Calls Tryd.prog 86 #[.iface 341 (.pointer (some a)), .iface 341 (.pointer (some b))] w fun e w' => e = .returned (.bool false) ∧ w' = w := by
  obtain ⟨i, hi, hcmp⟩ := Option.map_eq_some_iff.1 isComp
  obtain ⟨j, hj, hjs⟩ := Option.map_eq_some_iff.1 isSize
  have h8 := @run_callFunc_extern Tryd.prog 141 _ Extern.ReflectliteType.typeOf Tryd.func141 (by kernel_rfl) (by kernel_rfl) (by kernel_rfl) (by kernel_rfl)
  have h32 := @run_callFunc_extern Tryd.prog 239 _ (Extern.ReflectliteType.method fun t => do Go.Extern.Rtype.noPackHeld "Comparable" t; pure (.bool (← typeInfo t).comparable)) Tryd.func239 (by kernel_rfl) (by kernel_rfl) (by kernel_rfl) (by kernel_rfl)
  have tT := isTypeOf
  have cT := isComparable
  have mR := isMethodComparable
  have nE := noIsE
  have uE := noUnwrapE
  have vE := noUnwrapsE
  have heq := run_eql_iface_ptr_other (P := Tryd.prog) w Tryd.underlying69 Tryd.underlying341 hi hcmp hj (by rw [hjs]; decide) hne ha hb
  go_enter Tryd.func86, Tryd.ntmps86
  go_wp2
  refine wp_loop_rounds 1 ?_
  rw [rounds_succ]
  go_wp2
  go_ret
  exact ⟨rfl, rfl⟩
end Go.Proofs.YtoogammidjhfgaaDoor

/-! errors.As at a variable of type *api.At, over sentinels, by its own text. -/
namespace Go.Proofs.YtoogammidjhfgaaDoor
open Go Go.RowKit Go.Extern.Stop Go.Stop Go.Extern

set_option maxRecDepth 100000 in
/-- errors.As(nil, target). -/
theorem as_nil (t : Value) (w : World) :
    Calls Tryd.prog 88 #[.nilIface, t] w fun e w' => e = .returned (.bool false) ∧ w' = w := by
  go_enter Tryd.func88, Tryd.ntmps88
  go_wp2
  go_ret
  exact ⟨rfl, rfl⟩

theorem valueOf182 (t : Addr) (w : World) : (ReflectliteValue.unpack (.iface 188 (.pointer (some t)))).run Tryd.prog w
    = .ok (.agg #[.pointer (some ⟨25, 188, none⟩), .pointer (some ⟨w.heap.size, 0, none⟩), .int .u64 150]) (w.alloc (.cells #[.pointer (some t)] 188)) := by kernel_rfl
theorem type182 (a : Addr) (w : World) : (ReflectliteValue.methodAny (ReflectliteValue.valueError "reflectlite.Value.Type" 0) (fun t _ _ _ => ReflectliteType.toType t) #[.agg #[.pointer (some ⟨25, 188, none⟩), .pointer (some a), .int .u64 150]]).run Tryd.prog w
    = .ok (.iface 294 (.agg #[.pointer (some ⟨25, 188, none⟩)])) w := by kernel_rfl
theorem methodKind (h : Value) (w : World) : (Go.method 472 294 (.agg #[h]) "Kind").run Tryd.prog w = .ok (228, h) w := by kernel_rfl
theorem kind182 (w : World) : ((ReflectliteType.abiMethod fun t => (fun a : Nat => Value.int IntKind.u8 (a : Int)) <$> Rtype.kind t) #[.pointer (some ⟨25, 188, none⟩)]).run Tryd.prog w = .ok (.int .u8 22) w := by kernel_rfl
theorem kind180 (w : World) : ((ReflectliteType.abiMethod fun t => (fun a : Nat => Value.int IntKind.u8 (a : Int)) <$> Rtype.kind t) #[.pointer (some ⟨25, 186, none⟩)]).run Tryd.prog w = .ok (.int .u8 22) w := by kernel_rfl
theorem rlm (z : Sem Value) (f : TypeId → Addr → Nat → Nat → Sem Value) (v : Value) :
    ReflectliteValue.method z f #[v] = (do match ← ReflectliteValue.parts v with | none => z | some (t, a, fl) => f t a fl (fl % 32)) := rfl
theorem parts182 (a : Addr) (w : World) : (ReflectliteValue.parts (.agg #[.pointer (some ⟨25, 188, none⟩), .pointer (some a), .int .u64 150])).run Tryd.prog w = .ok (some (188, a, 150)) w := by kernel_rfl
theorem isNil182 (a p : Addr) (W : World) (ha : W.cell? a = some (.pointer (some p))) :
    (ReflectliteValue.method (ReflectliteValue.valueError "reflectlite.Value.IsNil" 0) ReflectliteValue.isNil #[.agg #[.pointer (some ⟨25, 188, none⟩), .pointer (some a), .int .u64 150]]).run Tryd.prog W = .ok (.bool false) W := by
  rw [rlm]
  simp only [Sem.run_bind, parts182, Result.andThen]
  simp [ReflectliteValue.isNil, loadVar, isAgg, underlying, Tryd.underlying188, ha, Result.andThen]
theorem methodElem (h : Value) (w : World) : (Go.method 472 294 (.agg #[h]) "Elem").run Tryd.prog w = .ok (240, .agg #[h]) w := by kernel_rfl
theorem methodImplements (h : Value) (w : World) : (Go.method 472 294 (.agg #[h]) "Implements").run Tryd.prog w = .ok (241, .agg #[h]) w := by kernel_rfl
theorem methodAssignableTo (h : Value) (w : World) : (Go.method 472 294 (.agg #[h]) "AssignableTo").run Tryd.prog w = .ok (238, .agg #[h]) w := by kernel_rfl
theorem elem182 (w : World) : (ReflectliteType.method ReflectliteType.elem #[.agg #[.pointer (some ⟨25, 188, none⟩)]]).run Tryd.prog w = .ok (.iface 294 (.agg #[.pointer (some ⟨25, 186, none⟩)])) w := by kernel_rfl
theorem implements180 (w : World) : (ReflectliteType.relation "Implements" ReflectliteType.implements_ #[.agg #[.pointer (some ⟨25, 186, none⟩)], .iface 294 (.agg #[.pointer (some ⟨25, 69, none⟩)])]).run Tryd.prog w = .ok (.bool true) w := by kernel_rfl
theorem assignable251 (w : World) : (ReflectliteType.relation "AssignableTo" ReflectliteType.assignableTo #[.agg #[.pointer (some ⟨25, 341, none⟩)], .iface 294 (.agg #[.pointer (some ⟨25, 186, none⟩)])]).run Tryd.prog w = .ok (.bool false) w := by kernel_rfl
theorem noAsE (v : Value) (xT : TypeId) (w : World) : (Instr.typeAssert (.iface 341 v) xT 306 true).run Tryd.prog w = .ok (.tuple #[.nilIface, .bool false]) w := run_typeAssert_lacksB Tryd.underlying306 (by kernel_rfl) (by kernel_rfl) v xT w

set_option maxRecDepth 100000 in
set_option maxHeartbeats 4000000 in
/-- errors.As(x, &a), x a pointer to an errors.errorString, a of type *api.At: false. -/
theorem as_miss (e t : Addr) (w : World) (hg : w.cell? ⟨20, 0, none⟩ = some (.iface 294 (.agg #[.pointer (some ⟨25, 69, none⟩)]))) :
    Calls Tryd.prog 88 #[.iface 341 (.pointer (some e)), .iface 188 (.pointer (some t))] w fun ev w' => ev = .returned (.bool false) ∧ ∃ o1 o2 o3, w' = ((w.alloc o1).alloc o2).alloc o3 := by
  have h6 := @run_callFunc_extern Tryd.prog 143 _ (fun args => ReflectliteValue.unpack (args.getD 0 (.tuple #[]))) Tryd.func143 (by kernel_rfl) (by kernel_rfl) (by kernel_rfl) (by kernel_rfl)
  have h7 := @run_callFunc_extern Tryd.prog 144 _ (ReflectliteValue.methodAny (ReflectliteValue.valueError "reflectlite.Value.Type" 0) (fun t _ _ _ => ReflectliteType.toType t)) Tryd.func144 (by kernel_rfl) (by kernel_rfl) (by kernel_rfl) (by kernel_rfl)
  have h8 := @run_callFunc_extern Tryd.prog 145 _ (ReflectliteValue.method (ReflectliteValue.valueError "reflectlite.Value.IsNil" 0) ReflectliteValue.isNil) Tryd.func145 (by kernel_rfl) (by kernel_rfl) (by kernel_rfl) (by kernel_rfl)
  have h27 := @run_callFunc_extern Tryd.prog 228 _ (ReflectliteType.abiMethod fun t => do pure (.int .u8 (← Rtype.kind t))) Tryd.func228 (by kernel_rfl) (by kernel_rfl) (by kernel_rfl) (by kernel_rfl)
  have h37 := @run_callFunc_extern Tryd.prog 240 _ (ReflectliteType.method ReflectliteType.elem) Tryd.func240 (by kernel_rfl) (by kernel_rfl) (by kernel_rfl) (by kernel_rfl)
  have h38 := @run_callFunc_extern Tryd.prog 241 _ (ReflectliteType.relation "Implements" ReflectliteType.implements_) Tryd.func241 (by kernel_rfl) (by kernel_rfl) (by kernel_rfl) (by kernel_rfl)
  have h10 := @run_callFunc_extern Tryd.prog 141 _ ReflectliteType.typeOf Tryd.func141 (by kernel_rfl) (by kernel_rfl) (by kernel_rfl) (by kernel_rfl)
  have h35 := @run_callFunc_extern Tryd.prog 238 _ (ReflectliteType.relation "AssignableTo" ReflectliteType.assignableTo) Tryd.func238 (by kernel_rfl) (by kernel_rfl) (by kernel_rfl) (by kernel_rfl)
  have tO := isTypeOf
  have mA := methodAssignableTo
  have a25 := assignable251
  have f6 := valueOf182
  have f7 := type182
  have mK := methodKind
  have mE := methodElem
  have mI := methodImplements
  have k27 := kind182
  have k25 := kind180
  have e27 := elem182
  have i25 := implements180
  have nA := noAsE
  have uE := noUnwrapE
  have vE := noUnwrapsE
  have n8 := isNil182 ⟨w.heap.size, 0, none⟩ t ((w.alloc (.cells #[.pointer (some t)] 188)).alloc (.cells #[.pointer (some ⟨25, 188, none⟩), .pointer (some ⟨w.heap.size, 0, none⟩), .int .u64 150] 260)) (by simp)
  have hlt : 20 < w.heap.size := World.block_lt_of_cell? w _ hg
  have hg2 : ((w.alloc (.cells #[.pointer (some t)] 188)).alloc (.cells #[.pointer (some ⟨25, 188, none⟩), .pointer (some ⟨w.heap.size, 0, none⟩), .int .u64 150] 260)).cell? ⟨20, 0, none⟩ = some (.iface 294 (.agg #[.pointer (some ⟨25, 69, none⟩)])) := by
    rw [World.cell?_alloc_lt _ _ ⟨20, 0, none⟩ (by simp; omega), World.cell?_alloc_lt _ _ ⟨20, 0, none⟩ hlt]; exact hg
  go_enter Tryd.func88, Tryd.ntmps88
  go_wp2
  refine wp_loop_rounds 1 ?_
  rw [rounds_succ]
  go_wp2
  go_ret
  exact ⟨rfl, _, _, _, rfl⟩
end Go.Proofs.YtoogammidjhfgaaDoor

/-! errors.As and errors.Is over an *api.At. -/
namespace Go.Proofs.YtoogammidjhfgaaDoor
open Go Go.RowKit Go.Extern.Stop Go.Stop Go.Extern

theorem typeOfAt (v : Value) (w : World) : (ReflectliteType.typeOf #[.iface 186 v]).run Tryd.prog w = .ok (.iface 294 (.agg #[.pointer (some ⟨25, 186, none⟩)])) w := by kernel_rfl
theorem assignableAt (w : World) : (ReflectliteType.relation "AssignableTo" ReflectliteType.assignableTo #[.agg #[.pointer (some ⟨25, 186, none⟩)], .iface 294 (.agg #[.pointer (some ⟨25, 186, none⟩)])]).run Tryd.prog w = .ok (.bool true) w := by kernel_rfl
theorem valueOfAt (e : Addr) (w : World) : (ReflectliteValue.unpack (.iface 186 (.pointer (some e)))).run Tryd.prog w
    = .ok (.agg #[.pointer (some ⟨25, 186, none⟩), .pointer (some ⟨w.heap.size, 0, none⟩), .int .u64 150]) (w.alloc (.cells #[.pointer (some e)] 186)) := by kernel_rfl
theorem elemOfPP (w : World) : (Rtype.elem? 188).run Tryd.prog w = .ok (some 186) w := by kernel_rfl
theorem mkAt (p : Addr) (w : World) : (ReflectliteValue.mk 186 p ReflectliteValue.flagAddr).run Tryd.prog w = .ok (.agg #[.pointer (some ⟨25, 186, none⟩), .pointer (some p), .int .u64 406]) w := by kernel_rfl
theorem elemVPP (a p : Addr) (W : World) (ha : W.cell? a = some (.pointer (some p))) :
    (ReflectliteValue.method (ReflectliteValue.valueError "reflectlite.Value.Elem" 0) ReflectliteValue.elem #[.agg #[.pointer (some ⟨25, 188, none⟩), .pointer (some a), .int .u64 150]]).run Tryd.prog W
      = .ok (.agg #[.pointer (some ⟨25, 186, none⟩), .pointer (some p), .int .u64 406]) W := by
  rw [rlm]
  simp only [Sem.run_bind, parts182, Result.andThen]
  simp [ReflectliteValue.elem, loadVar, Go.isAgg, underlying, Tryd.underlying188, ha, Result.andThen, elemOfPP, mkAt]
theorem rls (v x : Value) : ReflectliteValue.set #[v, x] = (do
    let (some (dst, a, fl), some (src, b, _)) := (← ReflectliteValue.parts v, ← ReflectliteValue.parts x)
      | unsupported (.noEntry "extern/(internal/reflectlite.Value).Set.zeroValue")
    if fl / ReflectliteValue.flagAddr % 2 == 0 then unsupported (.noEntry "extern/(internal/reflectlite.Value).Set.unaddressable")
    let val ← loadVar src b
    if ← Rtype.directlyAssignable dst src then storeVar dst a val
    else if ← Rtype.implements dst src then
      if (← Rtype.kind src) == 20 then
        match val with
        | .nilIface => unsupported (.noEntry "extern/reflectlite: a nil value of one interface type handed on as a value of another")
        | _ => storeVar dst a val
      else storeVar dst a (.iface src val)
    else panicString ("reflectlite.Set: value of type " ++ (← Rtype.spelt src) ++ " is not assignable to type " ++ (← Rtype.spelt dst))
    pure (.tuple #[])) := rfl
theorem partsAtA (a : Addr) (w : World) : (ReflectliteValue.parts (.agg #[.pointer (some ⟨25, 186, none⟩), .pointer (some a), .int .u64 406])).run Tryd.prog w = .ok (some (186, a, 406)) w := by kernel_rfl
theorem partsAt (a : Addr) (w : World) : (ReflectliteValue.parts (.agg #[.pointer (some ⟨25, 186, none⟩), .pointer (some a), .int .u64 150])).run Tryd.prog w = .ok (some (186, a, 150)) w := by kernel_rfl
theorem directAt (w : World) : (Rtype.directlyAssignable 186 186).run Tryd.prog w = .ok true w := by kernel_rfl
theorem sizeAt (w : World) : (Go.sizeOf 186).run Tryd.prog w = .ok 1 w := by kernel_rfl
theorem setAt (ta b e : Addr) (old : Value) (W : World) (hb : W.cell? b = some (.pointer (some e))) (ht : W.cell? ta = some old) (hf : W.frozen? ta = false) :
    (ReflectliteValue.set #[.agg #[.pointer (some ⟨25, 186, none⟩), .pointer (some ta), .int .u64 406], .agg #[.pointer (some ⟨25, 186, none⟩), .pointer (some b), .int .u64 150]]).run Tryd.prog W
      = .ok (.tuple #[]) (W.setCell ta (.pointer (some e))) := by
  rw [rls]
  simp only [Sem.run_bind, partsAtA, partsAt, Result.andThen]
  simp [ReflectliteValue.flagAddr, loadVar, Go.isAgg, underlying, Tryd.underlying186, hb, Result.andThen, directAt, storeVar, Value.cells, storeCells, Addr.add, sizeAt]
  rw [run_store Tryd.prog W ta _ _ (by rfl)]
  simp [ht, hf]

set_option maxRecDepth 100000 in
set_option maxHeartbeats 4000000 in
/-- errors.As(x, &a), x an *api.At: a is x. -/
theorem as_hit (e t : Addr) (old : Value) (w : World) (hg : w.cell? ⟨20, 0, none⟩ = some (.iface 294 (.agg #[.pointer (some ⟨25, 69, none⟩)]))) (ht0 : w.cell? t = some old) (hf0 : w.frozen? t = false) :
    Calls Tryd.prog 88 #[.iface 186 (.pointer (some e)), .iface 188 (.pointer (some t))] w fun ev w' => ev = .returned (.bool true) ∧ ∃ o1 o2 o3 o4, w' = ((((w.alloc o1).alloc o2).alloc o3).alloc o4).setCell t (.pointer (some e)) := by
  have h6 := @run_callFunc_extern Tryd.prog 143 _ (fun args => ReflectliteValue.unpack (args.getD 0 (.tuple #[]))) Tryd.func143 (by kernel_rfl) (by kernel_rfl) (by kernel_rfl) (by kernel_rfl)
  have h7 := @run_callFunc_extern Tryd.prog 144 _ (ReflectliteValue.methodAny (ReflectliteValue.valueError "reflectlite.Value.Type" 0) (fun t _ _ _ => ReflectliteType.toType t)) Tryd.func144 (by kernel_rfl) (by kernel_rfl) (by kernel_rfl) (by kernel_rfl)
  have h8 := @run_callFunc_extern Tryd.prog 145 _ (ReflectliteValue.method (ReflectliteValue.valueError "reflectlite.Value.IsNil" 0) ReflectliteValue.isNil) Tryd.func145 (by kernel_rfl) (by kernel_rfl) (by kernel_rfl) (by kernel_rfl)
  have h27 := @run_callFunc_extern Tryd.prog 228 _ (ReflectliteType.abiMethod fun t => do pure (.int .u8 (← Rtype.kind t))) Tryd.func228 (by kernel_rfl) (by kernel_rfl) (by kernel_rfl) (by kernel_rfl)
  have h37 := @run_callFunc_extern Tryd.prog 240 _ (ReflectliteType.method ReflectliteType.elem) Tryd.func240 (by kernel_rfl) (by kernel_rfl) (by kernel_rfl) (by kernel_rfl)
  have h38 := @run_callFunc_extern Tryd.prog 241 _ (ReflectliteType.relation "Implements" ReflectliteType.implements_) Tryd.func241 (by kernel_rfl) (by kernel_rfl) (by kernel_rfl) (by kernel_rfl)
  have h10 := @run_callFunc_extern Tryd.prog 141 _ ReflectliteType.typeOf Tryd.func141 (by kernel_rfl) (by kernel_rfl) (by kernel_rfl) (by kernel_rfl)
  have h35 := @run_callFunc_extern Tryd.prog 238 _ (ReflectliteType.relation "AssignableTo" ReflectliteType.assignableTo) Tryd.func238 (by kernel_rfl) (by kernel_rfl) (by kernel_rfl) (by kernel_rfl)
  have tO := typeOfAt
  have mA := methodAssignableTo
  have a25 := assignableAt
  have f6 := valueOf182
  have f7 := type182
  have mK := methodKind
  have mE := methodElem
  have mI := methodImplements
  have k27 := kind182
  have k25 := kind180
  have e27 := elem182
  have i25 := implements180
  have n8 := isNil182 ⟨w.heap.size, 0, none⟩ t ((w.alloc (.cells #[.pointer (some t)] 188)).alloc (.cells #[.pointer (some ⟨25, 188, none⟩), .pointer (some ⟨w.heap.size, 0, none⟩), .int .u64 150] 260)) (by simp)
  have hlt : 20 < w.heap.size := World.block_lt_of_cell? w _ hg
  have hg2 : ((w.alloc (.cells #[.pointer (some t)] 188)).alloc (.cells #[.pointer (some ⟨25, 188, none⟩), .pointer (some ⟨w.heap.size, 0, none⟩), .int .u64 150] 260)).cell? ⟨20, 0, none⟩ = some (.iface 294 (.agg #[.pointer (some ⟨25, 69, none⟩)])) := by
    rw [World.cell?_alloc_lt _ _ ⟨20, 0, none⟩ (by simp; omega), World.cell?_alloc_lt _ _ ⟨20, 0, none⟩ hlt]; exact hg
  have h11 := @run_callFunc_extern Tryd.prog 176 _ (ReflectliteValue.method (ReflectliteValue.valueError "reflectlite.Value.Elem" 0) ReflectliteValue.elem) Tryd.func176 (by kernel_rfl) (by kernel_rfl) (by kernel_rfl) (by kernel_rfl)
  have h12 := @run_callFunc_extern Tryd.prog 177 _ ReflectliteValue.set Tryd.func177 (by kernel_rfl) (by kernel_rfl) (by kernel_rfl) (by kernel_rfl)
  have v25 := valueOfAt
  have htl : t.block < w.heap.size := by
    rcases Nat.lt_or_ge t.block w.heap.size with h | h
    · exact h
    · simp [World.cell?, Array.getElem?_eq_none h] at ht0
  have el := elemVPP ⟨w.heap.size, 0, none⟩ t (((w.alloc (.cells #[.pointer (some t)] 188)).alloc (.cells #[.pointer (some ⟨25, 188, none⟩), .pointer (some ⟨w.heap.size, 0, none⟩), .int .u64 150] 260)).alloc (.cells #[.pointer (some ⟨25, 188, none⟩), .pointer (some ⟨w.heap.size, 0, none⟩), .int .u64 150] 260)) (by rw [World.cell?_alloc_lt _ _ ⟨w.heap.size, 0, none⟩ (by simp; omega)]; simp)
  have st := setAt t ⟨w.heap.size + 1 + 1 + 1, 0, none⟩ e old ((((w.alloc (.cells #[.pointer (some t)] 188)).alloc (.cells #[.pointer (some ⟨25, 188, none⟩), .pointer (some ⟨w.heap.size, 0, none⟩), .int .u64 150] 260)).alloc (.cells #[.pointer (some ⟨25, 188, none⟩), .pointer (some ⟨w.heap.size, 0, none⟩), .int .u64 150] 260)).alloc (.cells #[.pointer (some e)] 186))
    (by rw [World.cell?_alloc_at _ _ _ _ (by simp)]; rfl)
    (by rw [World.cell?_alloc_lt _ _ t (by simp; omega), World.cell?_alloc_lt _ _ t (by simp; omega), World.cell?_alloc_lt _ _ t (by simp; omega), World.cell?_alloc_lt _ _ t htl]; exact ht0)
    (by rw [World.frozen?_alloc_old _ _ t (by simp; omega), World.frozen?_alloc_old _ _ t (by simp; omega), World.frozen?_alloc_old _ _ t (by simp; omega), World.frozen?_alloc_old _ _ t (Nat.ne_of_lt htl)]; exact hf0)
  go_enter Tryd.func88, Tryd.ntmps88
  go_wp2
  refine wp_loop_rounds 1 ?_
  rw [rounds_succ]
  go_wp2
  go_ret
  exact ⟨rfl, _, _, _, _, rfl⟩

theorem noIsAt (v : Value) (xT : TypeId) (w : World) : (Instr.typeAssert (.iface 186 v) xT 296 true).run Tryd.prog w = .ok (.tuple #[.nilIface, .bool false]) w := run_typeAssert_lacksB Tryd.underlying296 (by kernel_rfl) (by kernel_rfl) v xT w
theorem unwrapAt (v : Value) (xT : TypeId) (w : World) : (Instr.typeAssert (.iface 186 v) xT 299 true).run Tryd.prog w = .ok (.tuple #[.iface 186 v, .bool true]) w := run_typeAssert_hasB Tryd.underlying299 (by kernel_rfl) v xT w
theorem methodUnwrap (v : Value) (w : World) : (Go.method 472 186 v "Unwrap").run Tryd.prog w = .ok (233, v) w := by kernel_rfl
theorem eqlAt (a b : Addr) (w : World) : (binOp .eql 69 (.iface 186 (.pointer (some a))) (.iface 341 (.pointer (some b)))).run Tryd.prog w = .ok (.bool false) w := by
  have h : ∀ d : Nat, (Op.equalIn (d + 1) 69 (.iface 186 (.pointer (some a))) (.iface 341 (.pointer (some b)))).run Tryd.prog w = .ok false w := fun d => by simp [Op.equalIn, run_underlying Tryd.underlying69]
  simp only [binOp]
  simp [Op.equal, Op.maxDepth, h 9999]

set_option maxRecDepth 100000 in
set_option maxHeartbeats 4000000 in
/-- errors.Is(x, y), x an *api.At that wraps y. -/
theorem is_at_same (pb po : Nat) (a : Addr) (w : World) (hp : w.cell? ⟨pb, po + 1, none⟩ = some (.iface 341 (.pointer (some a)))) :
    Calls Tryd.prog 86 #[.iface 186 (.pointer (some ⟨pb, po, none⟩)), .iface 341 (.pointer (some a))] w fun e w' => e = .returned (.bool true) ∧ w' = w := by
  obtain ⟨i, hi, hcmp⟩ := Option.map_eq_some_iff.1 isComp
  obtain ⟨j, hj, hjs⟩ := Option.map_eq_some_iff.1 isSize
  have h8 := @run_callFunc_extern Tryd.prog 141 _ Extern.ReflectliteType.typeOf Tryd.func141 (by kernel_rfl) (by kernel_rfl) (by kernel_rfl) (by kernel_rfl)
  have h32 := @run_callFunc_extern Tryd.prog 239 _ (Extern.ReflectliteType.method fun t => do Go.Extern.Rtype.noPackHeld "Comparable" t; pure (.bool (← typeInfo t).comparable)) Tryd.func239 (by kernel_rfl) (by kernel_rfl) (by kernel_rfl) (by kernel_rfl)
  have tT := isTypeOf
  have cT := isComparable
  have mR := isMethodComparable
  have nA := noIsAt
  have uA := unwrapAt
  have mU := methodUnwrap
  have eA := eqlAt
  have heq := run_eql_iface_ptr_same (P := Tryd.prog) w a Tryd.underlying69 Tryd.underlying341 hi hcmp hj
  go_enter Tryd.func86, Tryd.ntmps86
  go_wp2
  refine wp_loop_rounds 2 ?_
  rw [rounds_succ]
  go_wp2
  rw [rounds_succ]
  go_wp2
  go_ret
  exact ⟨rfl, rfl⟩

set_option maxRecDepth 100000 in
set_option maxHeartbeats 4000000 in
/-- errors.Is(x, y), x an *api.At that wraps another. -/
theorem is_at_other (pb po : Nat) (a b : Addr) (ca cb : Array Value) (ta tb : TypeId) (w : World) (hp : w.cell? ⟨pb, po + 1, none⟩ = some (.iface 341 (.pointer (some a)))) (hne : a ≠ b) (ha : w.heap[a.block]? = some (.cells ca ta (0, 0))) (hb : w.heap[b.block]? = some (.cells cb tb (0, 0))) :
    Calls Tryd.prog 86 #[.iface 186 (.pointer (some ⟨pb, po, none⟩)), .iface 341 (.pointer (some b))] w fun e w' => e = .returned (.bool false) ∧ w' = w := by
  obtain ⟨i, hi, hcmp⟩ := Option.map_eq_some_iff.1 isComp
  obtain ⟨j, hj, hjs⟩ := Option.map_eq_some_iff.1 isSize
  have h8 := @run_callFunc_extern Tryd.prog 141 _ Extern.ReflectliteType.typeOf Tryd.func141 (by kernel_rfl) (by kernel_rfl) (by kernel_rfl) (by kernel_rfl)
  have h32 := @run_callFunc_extern Tryd.prog 239 _ (Extern.ReflectliteType.method fun t => do Go.Extern.Rtype.noPackHeld "Comparable" t; pure (.bool (← typeInfo t).comparable)) Tryd.func239 (by kernel_rfl) (by kernel_rfl) (by kernel_rfl) (by kernel_rfl)
  have tT := isTypeOf
  have cT := isComparable
  have mR := isMethodComparable
  have nA := noIsAt
  have uA := unwrapAt
  have mU := methodUnwrap
  have eA := eqlAt
  have nE := noIsE
  have uE := noUnwrapE
  have vE := noUnwrapsE
  have heq := run_eql_iface_ptr_other (P := Tryd.prog) w Tryd.underlying69 Tryd.underlying341 hi hcmp hj (by rw [hjs]; decide) hne ha hb
  go_enter Tryd.func86, Tryd.ntmps86
  go_wp2
  refine wp_loop_rounds 2 ?_
  rw [rounds_succ]
  go_wp2
  rw [rounds_succ]
  go_wp2
  go_ret
  exact ⟨rfl, rfl⟩
end Go.Proofs.YtoogammidjhfgaaDoor

/-! errors.Is and errors.As stand for their plain meaning. -/
namespace Go.Proofs.YtoogammidjhfgaaDoor
open Go Go.Fv Go.Fv.Tr

theorem mixed : Tryd.prog.follows .mixedOrders = true := by kernel_rfl
theorem callable {f : FuncId} {fn : Func} (h : Tryd.prog.funcs[f]? = some fn) (hb : fn.body.isSome = true) (hn : decide (fn.name = "runtime.NumGoroutine") = false) : Callable Tryd.prog f := ⟨fn, h, hb, of_decide_eq_false hn⟩
theorem args2 {σ : Nat → Addr} {K : Ctx} {w : World} {a b : V} {xs : Array Value} (h : ArgsRel σ K w [a, b] xs) : ∃ x y, xs = #[x, y] ∧ Rel σ K w a x ∧ Rel σ K w b y := by
  obtain ⟨hl, hr⟩ := h
  have hs : xs.size = 2 := hl.symm
  have e : xs = #[xs[0], xs[1]] := by
    apply Array.ext
    · simpa using hs
    · intro i h1 h2
      have : i = 0 ∨ i = 1 := by
        have : i < 2 := by omega
        omega
      rcases this with rfl | rfl <;> rfl
  exact ⟨xs[0], xs[1], e, hr 0 a xs[0] rfl (Array.getElem?_eq_getElem _), hr 1 b xs[1] rfl (Array.getElem?_eq_getElem _)⟩

/-- Different sentinels lie at different places. -/
def Apart (G : Nat → Option (List V)) (σ : Nat → Addr) : Prop := ∀ i j, sentOf G i = true → sentOf G j = true → i ≠ j → σ i ≠ σ j

theorem kind_ext {f : FuncId} (h : kindOf f = .ext) : exts.contains f = true := by
  unfold kindOf at h
  by_cases h0 : exts.contains f = true
  · exact h0
  rw [if_neg h0] at h
  by_cases h1 : seens.contains f = true
  · rw [if_pos h1] at h; cases h
  rw [if_neg h1] at h
  by_cases h2 : efs.contains f = true
  · rw [if_pos h2] at h; cases h
  rw [if_neg h2] at h
  by_cases h3 : pures.contains f = true
  · rw [if_pos h3] at h; cases h
  rw [if_neg h3] at h
  by_cases h4 : owns.contains f = true
  · rw [if_pos h4] at h; cases h
  rw [if_neg h4] at h
  cases h
theorem kind_exts {f : FuncId} (h : kindOf f = .exts) : seens.contains f = true := by
  unfold kindOf at h
  by_cases h0 : exts.contains f = true
  · rw [if_pos h0] at h; cases h
  rw [if_neg h0] at h
  by_cases h1 : seens.contains f = true
  · exact h1
  rw [if_neg h1] at h
  by_cases h2 : efs.contains f = true
  · rw [if_pos h2] at h; cases h
  rw [if_neg h2] at h
  by_cases h3 : pures.contains f = true
  · rw [if_pos h3] at h; cases h
  rw [if_neg h3] at h
  by_cases h4 : owns.contains f = true
  · rw [if_pos h4] at h; cases h
  rw [if_neg h4] at h
  cases h
theorem kind_extm {f : FuncId} (h : kindOf f = .extm) : efs.contains f = true := by
  unfold kindOf at h
  by_cases h0 : exts.contains f = true
  · rw [if_pos h0] at h; cases h
  rw [if_neg h0] at h
  by_cases h1 : seens.contains f = true
  · rw [if_pos h1] at h; cases h
  rw [if_neg h1] at h
  by_cases h2 : efs.contains f = true
  · exact h2
  rw [if_neg h2] at h
  by_cases h3 : pures.contains f = true
  · rw [if_pos h3] at h; cases h
  rw [if_neg h3] at h
  by_cases h4 : owns.contains f = true
  · rw [if_pos h4] at h; cases h
  rw [if_neg h4] at h
  cases h
theorem goodG {G : Nat → Option (List V)} {σ : Nat → Addr} (he : ∀ f, exts.contains f = true → SoundF (cfg G) σ f fun args => M.lift (extX G f args)) (hs : ∀ f, seens.contains f = true → SoundF (cfg G) σ f fun args => M.lift (extX G f args))
    (hm : ∀ f, efs.contains f = true → SoundF (cfg G) σ f ((cfg G).Y f)) : Fv.Good (cfg G) σ := ⟨mixed, fun f hf => he f (kind_ext hf), fun f hf => hs f (kind_exts hf), fun f hf => hm f (kind_extm hf)⟩
end Go.Proofs.YtoogammidjhfgaaDoor

/-! errors.Is and errors.As, over an *api.At too, stand for their plain meaning. -/
namespace Go.Proofs.YtoogammidjhfgaaDoor
open Go Go.Fv Go.Fv.Tr

theorem _root_.Go.Fv.Lies.thawed {w : World} {b : Nat} {cs : Array Value} {e : TypeId} (h : Lies w b cs e) {o : Nat} (ho : o < cs.size) : w.frozen? ⟨b, o, none⟩ = false := by
  obtain ⟨f, hf, hor⟩ := h
  rcases hor with rfl | hor
  · simp [World.frozen?, hf]
  · simp [World.frozen?, hf]
    omega

theorem is_soundA {G : Nat → Option (List V)} {σ : Nat → Addr} (hσ : Apart G σ) : SoundF (cfg G) σ 86 fun args => M.lift (extX G 86 args) := by
  intro K H w vs xs v H' inv gl ar h
  refine ⟨callable Tryd.func86 (by kernel_rfl) (by kernel_rfl), ?_⟩
  have h0 : extX G 86 vs = isX G vs := if_pos rfl
  have hx : isX G vs = some v ∧ H' = H := by
    rw [← h0]
    cases e : extX G 86 vs with
    | none => simp only [M.lift, e] at h; cases h
    | some u => simp only [M.lift, e, Option.bind_some] at h; cases h; exact ⟨rfl, rfl⟩
  obtain ⟨hx, rfl⟩ := hx
  have same : ∀ b, v = .bool b → ∀ (e : Ending) w', (e = .returned (.bool b) ∧ w' = w) → ∃ x, e = .returned x ∧ Leads (cfg G) σ K H' w v H' x w' := by
    rintro b rfl e w' ⟨rfl, rfl⟩
    exact ⟨_, rfl, leads_same inv (.bool b)⟩
  unfold isX at hx
  split at hx
  · rename_i j
    cases hx
    obtain ⟨x, y, rfl, r1, r2⟩ := args2 ar
    cases r1
    cases r2 with
    | iface t u y hc hr =>
      cases hr
      exact (is_nil (σ j) w).mono (same false rfl)
  · rename_i i j
    obtain ⟨x, y, rfl, r1, r2⟩ := args2 ar
    cases r1 with
    | iface t u x' hc1 hr1 =>
      cases hr1
      cases r2 with
      | iface t2 u2 y' hc2 hr2 =>
        cases hr2
        split at hx
        · rename_i e
          have e : i = j := by simpa using e
          subst e
          cases hx
          exact (is_same (σ i) w).mono (same true rfl)
        · rename_i hne
          split at hx
          · rename_i hs
            rw [Bool.and_eq_true] at hs
            cases hx
            obtain ⟨_, c1, t1, h1⟩ := gl.s i hs.1
            obtain ⟨_, c2, t2, h2⟩ := gl.s j hs.2
            exact (is_other (σ i) (σ j) c1 c2 t1 t2 w (hσ i j hs.1 hs.2 (by simpa using hne)) h1 h2).mono (same false rfl)
          · cases hx
  · rename_i pl i j
    obtain ⟨x, y, rfl, r1, r2⟩ := args2 ar
    cases r1 with
    | iface t u x' hc1 hr1 =>
      cases hr1 with
      | iptr row o b off val hI hc hw hr =>
        have h1 := hw 1 (.iface 341 (.ext i)) rfl
        have h2 := hr 1 (.iface 341 (.ext i)) rfl
        generalize val 1 = y1 at h1 h2
        cases h2 with
        | iface t3 u3 z hc3 hr3 =>
        cases hr3
        have hadd : (⟨b, off + 0, none⟩ : Addr).add 1 = ⟨b, off + 1, none⟩ := rfl
        cases r2 with
        | iface t2 u2 y' hc2 hr2 =>
          cases hr2
          split at hx
          · rename_i e
            have e : i = j := by simpa using e
            subst e
            cases hx
            exact (is_at_same b (off + 0) (σ i) w h1).mono (same true rfl)
          · rename_i hne
            split at hx
            · rename_i hs
              rw [Bool.and_eq_true] at hs
              cases hx
              obtain ⟨_, c1, t1, g1⟩ := gl.s i hs.1
              obtain ⟨_, c2, t2, g2⟩ := gl.s j hs.2
              exact (is_at_other b (off + 0) (σ i) (σ j) c1 c2 t1 t2 w h1 (hσ i j hs.1 hs.2 (by simpa using hne)) g1 g2).mono (same false rfl)
            · cases hx
  · cases hx

theorem cellsAtP : Tryd.prog.cellsOf 186 = 1 := by kernel_rfl

theorem infoAtP : ∃ i, Tryd.prog.info? 186 = some i := info_of_cells (C := ⟨Tryd.prog, fun _ => none, fun _ => .inl, fun _ _ => none, fun _ => false, fun _ => none, fun _ => none, fun _ _ => M.fail⟩) (t := 186) (by rw [cellsAtP]; decide)
theorem place_of {σ : Nat → Addr} {K : Ctx} {H : Heap} {w : World} (inv : Inv σ K H w) {l i o b off sz : Nat} {B : Blk} {row : List V} (hρ : K.ρ l = (b, off, sz)) (hB : H.blk l = some B) (hrow : B.rows[i]? = some row) (ho : o < row.length) :
    ∃ old, w.cell? ⟨b, off + i * sz + o, none⟩ = some old ∧ w.frozen? ⟨b, off + i * sz + o, none⟩ = false := by
  have hBB := inv.blk l B hB
  obtain ⟨cc, ee, g1, g2, g3⟩ := hBB.at_
  have hz := hBB.sz
  rw [hρ] at g1 g2 g3 hz
  simp only at g1 g2 g3 hz
  subst hz
  obtain ⟨q1, old, q2, q3⟩ := g3 i row o row[o] hrow (List.getElem?_eq_getElem ho)
  exact ⟨old, (g1.cell _).trans q2, g1.thawed (Array.getElem?_eq_some_iff.1 q2).1⟩

theorem as_soundA {G : Nat → Option (List V)} {σ : Nat → Addr} : SoundF (cfg G) σ 88 ((cfg G).Y 88) := by
  intro K H w vs xs v H' inv gl ar h
  refine ⟨callable Tryd.func88 (by kernel_rfl) (by kernel_rfl), ?_⟩
  have h0 : asY G vs H = some (v, H') := by
    have h1 : extY G 88 vs H = some (v, H') := h
    unfold extY at h1
    rw [if_pos rfl] at h1
    exact h1
  clear h
  have hz : handOf G = true → w.cell? ⟨20, 0, none⟩ = some (.iface 294 (.agg #[.pointer (some ⟨25, 69, none⟩)])) := fun hh => (gl.z 20 _ (by show (if 20 = 20 ∧ handOf G = true then _ else _) = _; rw [if_pos ⟨rfl, hh⟩])).2
  have hit : ∀ (p : V) (l i o : Nat), (∀ x', Rel σ K w p x' → ∃ e, x' = .pointer (some e)) → handOf G = true → vs = [.iface 186 p, .iface 188 (.ptr l i o)] → (M.bind (storeN 1 (.ptr l i o) p) fun _ => M.ret (.bool true)) H = some (v, H') →
      Calls (cfg G).P 88 xs w fun e w' => ∃ x, e = .returned x ∧ Leads (cfg G) σ K H w v H' x w' := by
    rintro p l i o hp hh rfl hb
    obtain ⟨u, H1, hs, hr⟩ := bind_eq hb
    simp only [M.ret, Option.some.injEq, Prod.mk.injEq] at hr
    obtain ⟨rfl, rfl⟩ := hr
    obtain ⟨x, y, rfl, r1, r2⟩ := args2 ar
    cases r1 with
    | iface t1 u1 x' hc1 hr1 =>
    cases r2 with
    | iface t2 u2 y' hc2 hr2 =>
    obtain ⟨e, rfl⟩ := hp x' hr1
    have hr2' := hr2
    cases hr2 with
    | ptr _ _ _ b off sz hl hρ =>
    obtain ⟨hf, cs, hc, hcl, B, hB, row, hrow, hle, _⟩ := (Run.storeN (Q := fun _ _ => True)).1 ⟨u, H1, hs, trivial⟩
    obtain ⟨old, ht0, hf0⟩ := place_of inv hρ hB hrow (show o < row.length by omega)
    refine (as_hit e ⟨b, off + i * sz + o, none⟩ old w (hz hh) ht0 hf0).mono ?_
    rintro ev w' ⟨rfl, o1, o2, o3, o4, rfl⟩
    obtain ⟨i1, e1⟩ := inv.junk o1
    obtain ⟨i2, e2⟩ := i1.junk o2
    obtain ⟨i3, e3⟩ := i2.junk o3
    obtain ⟨i4, e4⟩ := i3.junk o4
    have ev4 := Evo.trans inv i3 (Evo.trans inv i2 (Evo.trans inv i1 e1 e2) e3) e4
    have mv := inv.moves ev4
    obtain ⟨inf, hinf⟩ := infoAtP
    obtain ⟨w5, s1, _, s3, s4⟩ := ok_store (C := cfg G) (t := 186) i4 (hr2'.mono mv) (hr1.mono mv) (i := inf) hinf (by have : (cfg G).P.cellsOf 186 = 1 := cellsAtP; rw [this]; exact hs)
    obtain ⟨old4, ht4, hf4⟩ := place_of i4 hρ hB hrow (show o < row.length by omega)
    have s2 : (Instr.storeAt 186 (.pointer (some ⟨b, off + i * sz + o, none⟩)) (.pointer (some e))).run Tryd.prog ((((w.alloc o1).alloc o2).alloc o3).alloc o4) = .ok () (((((w.alloc o1).alloc o2).alloc o3).alloc o4).setCell ⟨b, off + i * sz + o, none⟩ (.pointer (some e))) := by
      simp [Instr.storeAt, Instr.sureAddr, storeVar, Fv.run_sizeOf hinf, cellsAtP, Value.cells, storeCells, Addr.add]
      rw [run_store Tryd.prog _ ⟨b, off + i * sz + o, none⟩ _ _ (by rfl)]
      simp [ht4, hf4]
    have s1' := s2.symm.trans s1
    cases s1'
    exact ⟨_, rfl, K, .bool true, s3, Evo.trans inv i4 ev4 s4⟩
  unfold asY at h0
  split at h0
  · simp only [M.ret, Option.some.injEq, Prod.mk.injEq] at h0
    obtain ⟨rfl, rfl⟩ := h0
    obtain ⟨x, y, rfl, r1, r2⟩ := args2 ar
    cases r1
    refine (as_nil y w).mono fun e w' ⟨h1, h2⟩ => ?_
    subst h1; subst h2
    exact ⟨_, rfl, leads_same inv (.bool false)⟩
  · split at h0
    · rename_i hh
      simp only [M.ret, Option.some.injEq, Prod.mk.injEq] at h0
      obtain ⟨rfl, rfl⟩ := h0
      obtain ⟨x, y, rfl, r1, r2⟩ := args2 ar
      cases r1 with
      | iface t u x' hc1 hr1 =>
        cases hr1
        cases r2 with
        | iface t2 u2 y' hc2 hr2 =>
          cases hr2
          refine (as_miss _ _ w (hz hh)).mono fun e w' ⟨h1, o1, o2, o3, h2⟩ => ?_
          subst h1; subst h2
          obtain ⟨i1, e1⟩ := inv.junk o1
          obtain ⟨i2, e2⟩ := i1.junk o2
          obtain ⟨i3, e3⟩ := i2.junk o3
          exact ⟨_, rfl, K, .bool false, i3, Evo.trans inv i2 (Evo.trans inv i1 e1 e2) e3⟩
    · cases h0
  · split at h0
    · rename_i a b c l i o hh
      refine hit (.ptr a b c) l i o (fun x' hr => ?_) hh rfl h0
      cases hr
      exact ⟨_, rfl⟩
    · cases h0
  · split at h0
    · rename_i r c l i o hh
      refine hit (.iptr r c) l i o (fun x' hr => ?_) hh rfl h0
      cases hr
      exact ⟨_, rfl⟩
    · cases h0
  · cases h0

theorem goodA {G : Nat → Option (List V)} {σ : Nat → Addr} (hσ : Apart G σ) (h0 : exts = [] ∧ efs = [88]) (hs : ∀ f, seens.contains f = true → f ≠ 86 → SoundF (cfg G) σ f fun args => M.lift (extX G f args)) : Fv.Good (cfg G) σ := goodG
  (fun f hf => by rw [h0.1] at hf; cases hf)
  (fun f hf => by
    by_cases e : f = 86
    · subst e; exact is_soundA hσ
    · exact hs f hf e)
  (fun f hf => by
    rw [h0.2] at hf
    have : f = 88 := by simpa using hf
    subst this
    exact as_soundA)
end Go.Proofs.YtoogammidjhfgaaDoor
