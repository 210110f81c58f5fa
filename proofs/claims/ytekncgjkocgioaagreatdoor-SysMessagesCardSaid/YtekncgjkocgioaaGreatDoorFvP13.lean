/-
  errors.Is over sentinels, by its own text. By an AI agent; no person has read it.
-/
import Derived.Test.YtekncgjkocgioaaGreatDoorChecked
import Derived.WalkKit
import Derived.LaidEql
import Derived.Stop.Asserts
import Derived.RowKitTokens
set_option linter.unusedVariables false
set_option linter.unusedSimpArgs false
set_option linter.unusedSectionVars false
/-! errors.Is over sentinels, by its own text. -/
namespace Go.Proofs.YtekncgjkocgioaaGreatDoor
open Go Go.RowKit Go.Extern.Stop Go.Stop Go.Extern
theorem isTypeOf (v:Value) (w:World):(Extern.ReflectliteType.typeOf #[.iface 315 v]).run Tryz.prog w = .ok (.iface 248 (.agg #[.pointer (some ⟨21,315,none⟩)])) w:=by kernel_rfl
theorem isComparable (w : World) : ((Extern.ReflectliteType.method fun t => do Go.Extern.Rtype.noPackHeld "Comparable" t; (fun a => Value.bool a.comparable) <$> typeInfo t) #[.agg #[.pointer (some ⟨21, 315, none⟩)]]).run Tryz.prog w = .ok (.bool true) w := by kernel_rfl
theorem isMethodComparable (v : Value) (w : World) : (Go.method 447 248 v "Comparable").run Tryz.prog w = .ok (288, v) w := by kernel_rfl
theorem isComp:(Tryz.prog.info? 315).map (·.comparable) = some true:=by kernel_rfl
theorem isSize:(Tryz.prog.info? 335).map (·.size) = some 1:=by kernel_rfl
theorem noIsE (v:Value) (xT:TypeId) (w:World):(Instr.typeAssert (.iface 315 v) xT 250 true).run Tryz.prog w = .ok (.tuple #[.nilIface,.bool false]) w:=run_typeAssert_lacksB Tryz.underlying250 (by kernel_rfl) (by kernel_rfl) v xT w
theorem noUnwrapE (v:Value) (xT:TypeId) (w:World):(Instr.typeAssert (.iface 315 v) xT 253 true).run Tryz.prog w = .ok (.tuple #[.nilIface,.bool false]) w:=run_typeAssert_lacksB Tryz.underlying253 (by kernel_rfl) (by kernel_rfl) v xT w
theorem noUnwrapsE (v:Value) (xT:TypeId) (w:World):(Instr.typeAssert (.iface 315 v) xT 255 true).run Tryz.prog w = .ok (.tuple #[.nilIface,.bool false]) w:=run_typeAssert_lacksB Tryz.underlying255 (by kernel_rfl) (by kernel_rfl) v xT w
set_option maxRecDepth 100000 in
set_option maxHeartbeats 1000000 in
theorem is_same (a:Addr) (w:World) :
  Calls Tryz.prog 79 #[.iface 315 (.pointer (some a)),.iface 315 (.pointer (some a))] w fun e w' => e = .returned (.bool true) ∧ w' = w:=by
 obtain ⟨i,hi,hcmp⟩:=Option.map_eq_some_iff.1 isComp
 obtain ⟨j,hj,hjs⟩:=Option.map_eq_some_iff.1 isSize
 have h8:=@run_callFunc_extern Tryz.prog 126 _ Extern.ReflectliteType.typeOf Tryz.func126 (by kernel_rfl) (by kernel_rfl) (by kernel_rfl) (by kernel_rfl)
 have h32 := @run_callFunc_extern Tryz.prog 288 _ (Extern.ReflectliteType.method fun t => do Go.Extern.Rtype.noPackHeld "Comparable" t; pure (.bool (← typeInfo t).comparable)) Tryz.func288 (by kernel_rfl) (by kernel_rfl) (by kernel_rfl) (by kernel_rfl)
 have tT:=isTypeOf
 have cT:=isComparable
 have mR:=isMethodComparable
 have heq:=run_eql_iface_ptr_same (P:=Tryz.prog) w a Tryz.underlying50 Tryz.underlying315 hi hcmp hj
 go_enter Tryz.func79,Tryz.ntmps79
 go_wp2
 refine wp_loop_rounds 1 ?_
 rw [rounds_succ]
 go_wp2
 go_ret
 exact ⟨rfl,rfl⟩
set_option maxRecDepth 100000 in
set_option maxHeartbeats 1000000 in
theorem is_nil (b:Addr) (w:World) :
  Calls Tryz.prog 79 #[.nilIface,.iface 315 (.pointer (some b))] w fun e w' => e = .returned (.bool false) ∧ w' = w:=by
 have hn:=run_eql_iface_nil_left (P:=Tryz.prog) w 315 (.pointer (some b)) Tryz.underlying50
 go_enter Tryz.func79,Tryz.ntmps79
 go_wp2
 go_ret
 exact ⟨rfl,rfl⟩
set_option maxRecDepth 100000 in
set_option maxHeartbeats 1000000 in
theorem is_other (a b:Addr) (ca cb:Array Value) (ta tb:TypeId) (w:World) (hne:a ≠ b) (ha:w.heap[a.block]? = some (.cells ca ta (0,0))) (hb:w.heap[b.block]? = some (.cells cb tb (0,0))) :
  Calls Tryz.prog 79 #[.iface 315 (.pointer (some a)),.iface 315 (.pointer (some b))] w fun e w' => e = .returned (.bool false) ∧ w' = w:=by
 obtain ⟨i,hi,hcmp⟩:=Option.map_eq_some_iff.1 isComp
 obtain ⟨j,hj,hjs⟩:=Option.map_eq_some_iff.1 isSize
 have h8:=@run_callFunc_extern Tryz.prog 126 _ Extern.ReflectliteType.typeOf Tryz.func126 (by kernel_rfl) (by kernel_rfl) (by kernel_rfl) (by kernel_rfl)
 have h32 := @run_callFunc_extern Tryz.prog 288 _ (Extern.ReflectliteType.method fun t => do Go.Extern.Rtype.noPackHeld "Comparable" t; pure (.bool (← typeInfo t).comparable)) Tryz.func288 (by kernel_rfl) (by kernel_rfl) (by kernel_rfl) (by kernel_rfl)
 have tT:=isTypeOf
 have cT:=isComparable
 have mR:=isMethodComparable
 have nE:=noIsE
 have uE:=noUnwrapE
 have vE:=noUnwrapsE
 have heq:=run_eql_iface_ptr_other (P:=Tryz.prog) w Tryz.underlying50 Tryz.underlying315 hi hcmp hj (by rw [hjs]; decide) hne ha hb
 go_enter Tryz.func79,Tryz.ntmps79
 go_wp2
 refine wp_loop_rounds 1 ?_
 rw [rounds_succ]
 go_wp2
 go_ret
 exact ⟨rfl,rfl⟩
end Go.Proofs.YtekncgjkocgioaaGreatDoor
namespace Go.Proofs.YtekncgjkocgioaaGreatDoor
open Go Go.RowKit Go.Extern.Stop Go.Stop Go.Extern
set_option maxRecDepth 100000 in
theorem as_nil (t:Value) (w:World) :
  Calls Tryz.prog 81 #[.nilIface,t] w fun e w' => e = .returned (.bool false) ∧ w' = w:=by
 go_enter Tryz.func81,Tryz.ntmps81
 go_wp2
 go_ret
 exact ⟨rfl,rfl⟩
theorem valueOf182 (t:Addr) (w:World):(ReflectliteValue.unpack (.iface 143 (.pointer (some t)))).run Tryz.prog w
  = .ok (.agg #[.pointer (some ⟨21,143,none⟩),.pointer (some ⟨w.heap.size,0,none⟩),.int .u64 150]) (w.alloc (.cells #[.pointer (some t)] 143)):=by kernel_rfl
theorem type182 (a : Addr) (w : World) : (ReflectliteValue.methodAny (ReflectliteValue.valueError "reflectlite.Value.Type" 0) (fun t _ _ _ => ReflectliteType.toType t) #[.agg #[.pointer (some ⟨21, 143, none⟩), .pointer (some a), .int .u64 150]]).run Tryz.prog w
  = .ok (.iface 248 (.agg #[.pointer (some ⟨21,143,none⟩)])) w:=by kernel_rfl
theorem methodKind (h : Value) (w : World) : (Go.method 447 248 (.agg #[h]) "Kind").run Tryz.prog w = .ok (278, h) w := by kernel_rfl
theorem kind182 (w:World):((ReflectliteType.abiMethod fun t => (fun a:Nat => Value.int IntKind.u8 (a:Int)) <$> Rtype.kind t) #[.pointer (some ⟨21,143,none⟩)]).run Tryz.prog w = .ok (.int .u8 22) w:=by kernel_rfl
theorem kind180 (w:World):((ReflectliteType.abiMethod fun t => (fun a:Nat => Value.int IntKind.u8 (a:Int)) <$> Rtype.kind t) #[.pointer (some ⟨21,127,none⟩)]).run Tryz.prog w = .ok (.int .u8 22) w:=by kernel_rfl
theorem rlm (z:Sem Value) (f:TypeId → Addr → Nat → Nat → Sem Value) (v:Value) :
  ReflectliteValue.method z f #[v] = (do match ← ReflectliteValue.parts v with | none => z | some (t,a,fl) => f t a fl (fl % 32)):=rfl
theorem parts182 (a:Addr) (w:World):(ReflectliteValue.parts (.agg #[.pointer (some ⟨21,143,none⟩),.pointer (some a),.int .u64 150])).run Tryz.prog w = .ok (some (143,a,150)) w:=by kernel_rfl
theorem isNil182 (a p:Addr) (W:World) (ha:W.cell? a = some (.pointer (some p))) :
  (ReflectliteValue.method (ReflectliteValue.valueError "reflectlite.Value.IsNil" 0) ReflectliteValue.isNil #[.agg #[.pointer (some ⟨21, 143, none⟩), .pointer (some a), .int .u64 150]]).run Tryz.prog W = .ok (.bool false) W := by
 rw [rlm]
 simp only [Sem.run_bind,parts182,Result.andThen]
 simp [ReflectliteValue.isNil,loadVar,isAgg,underlying,Tryz.underlying143,ha,Result.andThen]
theorem methodElem (h : Value) (w : World) : (Go.method 447 248 (.agg #[h]) "Elem").run Tryz.prog w = .ok (289, .agg #[h]) w := by kernel_rfl
theorem methodImplements (h : Value) (w : World) : (Go.method 447 248 (.agg #[h]) "Implements").run Tryz.prog w = .ok (290, .agg #[h]) w := by kernel_rfl
theorem methodAssignableTo (h : Value) (w : World) : (Go.method 447 248 (.agg #[h]) "AssignableTo").run Tryz.prog w = .ok (287, .agg #[h]) w := by kernel_rfl
theorem elem182 (w:World):(ReflectliteType.method ReflectliteType.elem #[.agg #[.pointer (some ⟨21,143,none⟩)]]).run Tryz.prog w = .ok (.iface 248 (.agg #[.pointer (some ⟨21,127,none⟩)])) w:=by kernel_rfl
theorem implements180 (w : World) : (ReflectliteType.relation "Implements" ReflectliteType.implements_ #[.agg #[.pointer (some ⟨21, 127, none⟩)], .iface 248 (.agg #[.pointer (some ⟨21, 50, none⟩)])]).run Tryz.prog w = .ok (.bool true) w := by kernel_rfl
theorem assignable251 (w : World) : (ReflectliteType.relation "AssignableTo" ReflectliteType.assignableTo #[.agg #[.pointer (some ⟨21, 315, none⟩)], .iface 248 (.agg #[.pointer (some ⟨21, 127, none⟩)])]).run Tryz.prog w = .ok (.bool false) w := by kernel_rfl
theorem noAsE (v:Value) (xT:TypeId) (w:World):(Instr.typeAssert (.iface 315 v) xT 260 true).run Tryz.prog w = .ok (.tuple #[.nilIface,.bool false]) w:=run_typeAssert_lacksB Tryz.underlying260 (by kernel_rfl) (by kernel_rfl) v xT w
set_option maxRecDepth 100000 in
set_option maxHeartbeats 4000000 in
theorem as_miss (e t:Addr) (w:World) (hg:w.cell? ⟨20,0,none⟩ = some (.iface 248 (.agg #[.pointer (some ⟨21,50,none⟩)]))) :
  Calls Tryz.prog 81 #[.iface 315 (.pointer (some e)),.iface 143 (.pointer (some t))] w fun ev w' => ev = .returned (.bool false) ∧ ∃ o1 o2 o3,w' = ((w.alloc o1).alloc o2).alloc o3:=by
 have h6:=@run_callFunc_extern Tryz.prog 128 _ (fun args => ReflectliteValue.unpack (args.getD 0 (.tuple #[]))) Tryz.func128 (by kernel_rfl) (by kernel_rfl) (by kernel_rfl) (by kernel_rfl)
 have h7 := @run_callFunc_extern Tryz.prog 129 _ (ReflectliteValue.methodAny (ReflectliteValue.valueError "reflectlite.Value.Type" 0) (fun t _ _ _ => ReflectliteType.toType t)) Tryz.func129 (by kernel_rfl) (by kernel_rfl) (by kernel_rfl) (by kernel_rfl)
 have h8 := @run_callFunc_extern Tryz.prog 130 _ (ReflectliteValue.method (ReflectliteValue.valueError "reflectlite.Value.IsNil" 0) ReflectliteValue.isNil) Tryz.func130 (by kernel_rfl) (by kernel_rfl) (by kernel_rfl) (by kernel_rfl)
 have h27:=@run_callFunc_extern Tryz.prog 278 _ (ReflectliteType.abiMethod fun t => do pure (.int .u8 (← Rtype.kind t))) Tryz.func278 (by kernel_rfl) (by kernel_rfl) (by kernel_rfl) (by kernel_rfl)
 have h37:=@run_callFunc_extern Tryz.prog 289 _ (ReflectliteType.method ReflectliteType.elem) Tryz.func289 (by kernel_rfl) (by kernel_rfl) (by kernel_rfl) (by kernel_rfl)
 have h38 := @run_callFunc_extern Tryz.prog 290 _ (ReflectliteType.relation "Implements" ReflectliteType.implements_) Tryz.func290 (by kernel_rfl) (by kernel_rfl) (by kernel_rfl) (by kernel_rfl)
 have h10:=@run_callFunc_extern Tryz.prog 126 _ ReflectliteType.typeOf Tryz.func126 (by kernel_rfl) (by kernel_rfl) (by kernel_rfl) (by kernel_rfl)
 have h35 := @run_callFunc_extern Tryz.prog 287 _ (ReflectliteType.relation "AssignableTo" ReflectliteType.assignableTo) Tryz.func287 (by kernel_rfl) (by kernel_rfl) (by kernel_rfl) (by kernel_rfl)
 have tO:=isTypeOf
 have mA:=methodAssignableTo
 have a25:=assignable251
 have f6:=valueOf182
 have f7:=type182
 have mK:=methodKind
 have mE:=methodElem
 have mI:=methodImplements
 have k27:=kind182
 have k25:=kind180
 have e27:=elem182
 have i25:=implements180
 have nA:=noAsE
 have uE:=noUnwrapE
 have vE:=noUnwrapsE
 have n8:=isNil182 ⟨w.heap.size,0,none⟩ t ((w.alloc (.cells #[.pointer (some t)] 143)).alloc (.cells #[.pointer (some ⟨21,143,none⟩),.pointer (some ⟨w.heap.size,0,none⟩),.int .u64 150] 203)) (by simp)
 have hlt:20 < w.heap.size:=World.block_lt_of_cell? w _ hg
 have hg2:((w.alloc (.cells #[.pointer (some t)] 143)).alloc (.cells #[.pointer (some ⟨21,143,none⟩),.pointer (some ⟨w.heap.size,0,none⟩),.int .u64 150] 203)).cell? ⟨20,0,none⟩ = some (.iface 248 (.agg #[.pointer (some ⟨21,50,none⟩)])):=by
  rw [World.cell?_alloc_lt _ _ ⟨20,0,none⟩ (by simp; omega),World.cell?_alloc_lt _ _ ⟨20,0,none⟩ hlt]; exact hg
 go_enter Tryz.func81,Tryz.ntmps81
 go_wp2
 refine wp_loop_rounds 1 ?_
 rw [rounds_succ]
 go_wp2
 go_ret
 exact ⟨rfl,_,_,_,rfl⟩
end Go.Proofs.YtekncgjkocgioaaGreatDoor
namespace Go.Proofs.YtekncgjkocgioaaGreatDoor
open Go Go.RowKit Go.Extern.Stop Go.Stop Go.Extern
theorem typeOfAt (v:Value) (w:World):(ReflectliteType.typeOf #[.iface 127 v]).run Tryz.prog w = .ok (.iface 248 (.agg #[.pointer (some ⟨21,127,none⟩)])) w:=by kernel_rfl
theorem assignableAt (w : World) : (ReflectliteType.relation "AssignableTo" ReflectliteType.assignableTo #[.agg #[.pointer (some ⟨21, 127, none⟩)], .iface 248 (.agg #[.pointer (some ⟨21, 127, none⟩)])]).run Tryz.prog w = .ok (.bool true) w := by kernel_rfl
theorem valueOfAt (e:Addr) (w:World):(ReflectliteValue.unpack (.iface 127 (.pointer (some e)))).run Tryz.prog w
  = .ok (.agg #[.pointer (some ⟨21,127,none⟩),.pointer (some ⟨w.heap.size,0,none⟩),.int .u64 150]) (w.alloc (.cells #[.pointer (some e)] 127)):=by kernel_rfl
theorem elemOfPP (w:World):(Rtype.elem? 143).run Tryz.prog w = .ok (some 127) w:=by kernel_rfl
theorem mkAt (p:Addr) (w:World):(ReflectliteValue.mk 127 p ReflectliteValue.flagAddr).run Tryz.prog w = .ok (.agg #[.pointer (some ⟨21,127,none⟩),.pointer (some p),.int .u64 406]) w:=by kernel_rfl
theorem elemVPP (a p:Addr) (W:World) (ha:W.cell? a = some (.pointer (some p))) :
  (ReflectliteValue.method (ReflectliteValue.valueError "reflectlite.Value.Elem" 0) ReflectliteValue.elem #[.agg #[.pointer (some ⟨21, 143, none⟩), .pointer (some a), .int .u64 150]]).run Tryz.prog W
   = .ok (.agg #[.pointer (some ⟨21,127,none⟩),.pointer (some p),.int .u64 406]) W:=by
 rw [rlm]
 simp only [Sem.run_bind,parts182,Result.andThen]
 simp [ReflectliteValue.elem,loadVar,Go.isAgg,underlying,Tryz.underlying143,ha,Result.andThen,elemOfPP,mkAt]
theorem rls (v x:Value):ReflectliteValue.set #[v,x] = (do
  let (some (dst,a,fl),some (src,b,_)):=(← ReflectliteValue.parts v,← ReflectliteValue.parts x)
   | unsupported (.noEntry "extern/(internal/reflectlite.Value).Set.zeroValue")
  if fl / ReflectliteValue.flagAddr % 2 == 0 then unsupported (.noEntry "extern/(internal/reflectlite.Value).Set.unaddressable")
  let val ← loadVar src b
  if ← Rtype.directlyAssignable dst src then storeVar dst a val
  else if ← Rtype.implements dst src then
   if (← Rtype.kind src) == 20 then
    match val with
    | .nilIface => unsupported (.noEntry "extern/reflectlite: a nil value of one interface type handed on as a value of another")
    | _ => storeVar dst a val
   else storeVar dst a (.iface src val)
  else panicString ("reflectlite.Set: value of type " ++ (← Rtype.spelt src) ++ " is not assignable to type " ++ (← Rtype.spelt dst))
  pure (.tuple #[])):=rfl
theorem partsAtA (a:Addr) (w:World):(ReflectliteValue.parts (.agg #[.pointer (some ⟨21,127,none⟩),.pointer (some a),.int .u64 406])).run Tryz.prog w = .ok (some (127,a,406)) w:=by kernel_rfl
theorem partsAt (a:Addr) (w:World):(ReflectliteValue.parts (.agg #[.pointer (some ⟨21,127,none⟩),.pointer (some a),.int .u64 150])).run Tryz.prog w = .ok (some (127,a,150)) w:=by kernel_rfl
theorem directAt (w:World):(Rtype.directlyAssignable 127 127).run Tryz.prog w = .ok true w:=by kernel_rfl
theorem sizeAt (w:World):(Go.sizeOf 127).run Tryz.prog w = .ok 1 w:=by kernel_rfl
theorem setAt (ta b e:Addr) (old:Value) (W:World) (hb:W.cell? b = some (.pointer (some e))) (ht:W.cell? ta = some old) (hf:W.frozen? ta = false) :
  (ReflectliteValue.set #[.agg #[.pointer (some ⟨21,127,none⟩),.pointer (some ta),.int .u64 406],.agg #[.pointer (some ⟨21,127,none⟩),.pointer (some b),.int .u64 150]]).run Tryz.prog W
   = .ok (.tuple #[]) (W.setCell ta (.pointer (some e))):=by
 rw [rls]
 simp only [Sem.run_bind,partsAtA,partsAt,Result.andThen]
 simp [ReflectliteValue.flagAddr,loadVar,Go.isAgg,underlying,Tryz.underlying127,hb,Result.andThen,directAt,storeVar,Value.cells,storeCells,Addr.add,sizeAt]
 rw [run_store Tryz.prog W ta _ _ (by rfl)]
 simp [ht,hf]
set_option maxRecDepth 100000 in
set_option maxHeartbeats 4000000 in
theorem as_hit (e t:Addr) (old:Value) (w:World) (hg:w.cell? ⟨20,0,none⟩ = some (.iface 248 (.agg #[.pointer (some ⟨21,50,none⟩)]))) (ht0:w.cell? t = some old) (hf0:w.frozen? t = false) :
  Calls Tryz.prog 81 #[.iface 127 (.pointer (some e)),.iface 143 (.pointer (some t))] w fun ev w' => ev = .returned (.bool true) ∧ ∃ o1 o2 o3 o4,w' = ((((w.alloc o1).alloc o2).alloc o3).alloc o4).setCell t (.pointer (some e)):=by
 have h6:=@run_callFunc_extern Tryz.prog 128 _ (fun args => ReflectliteValue.unpack (args.getD 0 (.tuple #[]))) Tryz.func128 (by kernel_rfl) (by kernel_rfl) (by kernel_rfl) (by kernel_rfl)
 have h7 := @run_callFunc_extern Tryz.prog 129 _ (ReflectliteValue.methodAny (ReflectliteValue.valueError "reflectlite.Value.Type" 0) (fun t _ _ _ => ReflectliteType.toType t)) Tryz.func129 (by kernel_rfl) (by kernel_rfl) (by kernel_rfl) (by kernel_rfl)
 have h8 := @run_callFunc_extern Tryz.prog 130 _ (ReflectliteValue.method (ReflectliteValue.valueError "reflectlite.Value.IsNil" 0) ReflectliteValue.isNil) Tryz.func130 (by kernel_rfl) (by kernel_rfl) (by kernel_rfl) (by kernel_rfl)
 have h27:=@run_callFunc_extern Tryz.prog 278 _ (ReflectliteType.abiMethod fun t => do pure (.int .u8 (← Rtype.kind t))) Tryz.func278 (by kernel_rfl) (by kernel_rfl) (by kernel_rfl) (by kernel_rfl)
 have h37:=@run_callFunc_extern Tryz.prog 289 _ (ReflectliteType.method ReflectliteType.elem) Tryz.func289 (by kernel_rfl) (by kernel_rfl) (by kernel_rfl) (by kernel_rfl)
 have h38 := @run_callFunc_extern Tryz.prog 290 _ (ReflectliteType.relation "Implements" ReflectliteType.implements_) Tryz.func290 (by kernel_rfl) (by kernel_rfl) (by kernel_rfl) (by kernel_rfl)
 have h10:=@run_callFunc_extern Tryz.prog 126 _ ReflectliteType.typeOf Tryz.func126 (by kernel_rfl) (by kernel_rfl) (by kernel_rfl) (by kernel_rfl)
 have h35 := @run_callFunc_extern Tryz.prog 287 _ (ReflectliteType.relation "AssignableTo" ReflectliteType.assignableTo) Tryz.func287 (by kernel_rfl) (by kernel_rfl) (by kernel_rfl) (by kernel_rfl)
 have tO:=typeOfAt
 have mA:=methodAssignableTo
 have a25:=assignableAt
 have f6:=valueOf182
 have f7:=type182
 have mK:=methodKind
 have mE:=methodElem
 have mI:=methodImplements
 have k27:=kind182
 have k25:=kind180
 have e27:=elem182
 have i25:=implements180
 have n8:=isNil182 ⟨w.heap.size,0,none⟩ t ((w.alloc (.cells #[.pointer (some t)] 143)).alloc (.cells #[.pointer (some ⟨21,143,none⟩),.pointer (some ⟨w.heap.size,0,none⟩),.int .u64 150] 203)) (by simp)
 have hlt:20 < w.heap.size:=World.block_lt_of_cell? w _ hg
 have hg2:((w.alloc (.cells #[.pointer (some t)] 143)).alloc (.cells #[.pointer (some ⟨21,143,none⟩),.pointer (some ⟨w.heap.size,0,none⟩),.int .u64 150] 203)).cell? ⟨20,0,none⟩ = some (.iface 248 (.agg #[.pointer (some ⟨21,50,none⟩)])):=by
  rw [World.cell?_alloc_lt _ _ ⟨20,0,none⟩ (by simp; omega),World.cell?_alloc_lt _ _ ⟨20,0,none⟩ hlt]; exact hg
 have h11 := @run_callFunc_extern Tryz.prog 192 _ (ReflectliteValue.method (ReflectliteValue.valueError "reflectlite.Value.Elem" 0) ReflectliteValue.elem) Tryz.func192 (by kernel_rfl) (by kernel_rfl) (by kernel_rfl) (by kernel_rfl)
 have h12:=@run_callFunc_extern Tryz.prog 193 _ ReflectliteValue.set Tryz.func193 (by kernel_rfl) (by kernel_rfl) (by kernel_rfl) (by kernel_rfl)
 have v25:=valueOfAt
 have htl:t.block < w.heap.size:=by
  rcases Nat.lt_or_ge t.block w.heap.size with h | h
  ·exact h
  ·simp [World.cell?,Array.getElem?_eq_none h] at ht0
 have el:=elemVPP ⟨w.heap.size,0,none⟩ t (((w.alloc (.cells #[.pointer (some t)] 143)).alloc (.cells #[.pointer (some ⟨21,143,none⟩),.pointer (some ⟨w.heap.size,0,none⟩),.int .u64 150] 203)).alloc (.cells #[.pointer (some ⟨21,143,none⟩),.pointer (some ⟨w.heap.size,0,none⟩),.int .u64 150] 203)) (by rw [World.cell?_alloc_lt _ _ ⟨w.heap.size,0,none⟩ (by simp; omega)]; simp)
 have st:=setAt t ⟨w.heap.size + 1 + 1 + 1,0,none⟩ e old ((((w.alloc (.cells #[.pointer (some t)] 143)).alloc (.cells #[.pointer (some ⟨21,143,none⟩),.pointer (some ⟨w.heap.size,0,none⟩),.int .u64 150] 203)).alloc (.cells #[.pointer (some ⟨21,143,none⟩),.pointer (some ⟨w.heap.size,0,none⟩),.int .u64 150] 203)).alloc (.cells #[.pointer (some e)] 127))
  (by rw [World.cell?_alloc_at _ _ _ _ (by simp)]; rfl)
  (by rw [World.cell?_alloc_lt _ _ t (by simp; omega),World.cell?_alloc_lt _ _ t (by simp; omega),World.cell?_alloc_lt _ _ t (by simp; omega),World.cell?_alloc_lt _ _ t htl]; exact ht0)
  (by rw [World.frozen?_alloc_old _ _ t (by simp; omega),World.frozen?_alloc_old _ _ t (by simp; omega),World.frozen?_alloc_old _ _ t (by simp; omega),World.frozen?_alloc_old _ _ t (Nat.ne_of_lt htl)]; exact hf0)
 go_enter Tryz.func81,Tryz.ntmps81
 go_wp2
 refine wp_loop_rounds 1 ?_
 rw [rounds_succ]
 go_wp2
 go_ret
 exact ⟨rfl,_,_,_,_,rfl⟩
theorem noIsAt (v:Value) (xT:TypeId) (w:World):(Instr.typeAssert (.iface 127 v) xT 250 true).run Tryz.prog w = .ok (.tuple #[.nilIface,.bool false]) w:=run_typeAssert_lacksB Tryz.underlying250 (by kernel_rfl) (by kernel_rfl) v xT w
theorem unwrapAt (v:Value) (xT:TypeId) (w:World):(Instr.typeAssert (.iface 127 v) xT 253 true).run Tryz.prog w = .ok (.tuple #[.iface 127 v,.bool true]) w:=run_typeAssert_hasB Tryz.underlying253 (by kernel_rfl) v xT w
theorem methodUnwrap (v : Value) (w : World) : (Go.method 447 127 v "Unwrap").run Tryz.prog w = .ok (282, v) w := by kernel_rfl
theorem eqlAt (a b:Addr) (w:World):(binOp .eql 50 (.iface 127 (.pointer (some a))) (.iface 315 (.pointer (some b)))).run Tryz.prog w = .ok (.bool false) w:=by
 have h:∀ d:Nat,(Op.equalIn (d + 1) 50 (.iface 127 (.pointer (some a))) (.iface 315 (.pointer (some b)))).run Tryz.prog w = .ok false w:=fun d => by simp [Op.equalIn,run_underlying Tryz.underlying50]
 simp only [binOp]
 simp [Op.equal,Op.maxDepth,h 9999]
set_option maxRecDepth 100000 in
set_option maxHeartbeats 4000000 in
theorem is_at_same (pb po:Nat) (a:Addr) (w:World) (hp:w.cell? ⟨pb,po + 1,none⟩ = some (.iface 315 (.pointer (some a)))) :
  Calls Tryz.prog 79 #[.iface 127 (.pointer (some ⟨pb,po,none⟩)),.iface 315 (.pointer (some a))] w fun e w' => e = .returned (.bool true) ∧ w' = w:=by
 obtain ⟨i,hi,hcmp⟩:=Option.map_eq_some_iff.1 isComp
 obtain ⟨j,hj,hjs⟩:=Option.map_eq_some_iff.1 isSize
 have h8:=@run_callFunc_extern Tryz.prog 126 _ Extern.ReflectliteType.typeOf Tryz.func126 (by kernel_rfl) (by kernel_rfl) (by kernel_rfl) (by kernel_rfl)
 have h32 := @run_callFunc_extern Tryz.prog 288 _ (Extern.ReflectliteType.method fun t => do Go.Extern.Rtype.noPackHeld "Comparable" t; pure (.bool (← typeInfo t).comparable)) Tryz.func288 (by kernel_rfl) (by kernel_rfl) (by kernel_rfl) (by kernel_rfl)
 have tT:=isTypeOf
 have cT:=isComparable
 have mR:=isMethodComparable
 have nA:=noIsAt
 have uA:=unwrapAt
 have mU:=methodUnwrap
 have eA:=eqlAt
 have heq:=run_eql_iface_ptr_same (P:=Tryz.prog) w a Tryz.underlying50 Tryz.underlying315 hi hcmp hj
 go_enter Tryz.func79,Tryz.ntmps79
 go_wp2
 refine wp_loop_rounds 2 ?_
 rw [rounds_succ]
 go_wp2
 rw [rounds_succ]
 go_wp2
 go_ret
 exact ⟨rfl,rfl⟩
set_option maxRecDepth 100000 in
set_option maxHeartbeats 4000000 in
theorem is_at_other (pb po:Nat) (a b:Addr) (ca cb:Array Value) (ta tb:TypeId) (w:World) (hp:w.cell? ⟨pb,po + 1,none⟩ = some (.iface 315 (.pointer (some a)))) (hne:a ≠ b) (ha:w.heap[a.block]? = some (.cells ca ta (0,0))) (hb:w.heap[b.block]? = some (.cells cb tb (0,0))) :
  Calls Tryz.prog 79 #[.iface 127 (.pointer (some ⟨pb,po,none⟩)),.iface 315 (.pointer (some b))] w fun e w' => e = .returned (.bool false) ∧ w' = w:=by
 obtain ⟨i,hi,hcmp⟩:=Option.map_eq_some_iff.1 isComp
 obtain ⟨j,hj,hjs⟩:=Option.map_eq_some_iff.1 isSize
 have h8:=@run_callFunc_extern Tryz.prog 126 _ Extern.ReflectliteType.typeOf Tryz.func126 (by kernel_rfl) (by kernel_rfl) (by kernel_rfl) (by kernel_rfl)
 have h32 := @run_callFunc_extern Tryz.prog 288 _ (Extern.ReflectliteType.method fun t => do Go.Extern.Rtype.noPackHeld "Comparable" t; pure (.bool (← typeInfo t).comparable)) Tryz.func288 (by kernel_rfl) (by kernel_rfl) (by kernel_rfl) (by kernel_rfl)
 have tT:=isTypeOf
 have cT:=isComparable
 have mR:=isMethodComparable
 have nA:=noIsAt
 have uA:=unwrapAt
 have mU:=methodUnwrap
 have eA:=eqlAt
 have nE:=noIsE
 have uE:=noUnwrapE
 have vE:=noUnwrapsE
 have heq:=run_eql_iface_ptr_other (P:=Tryz.prog) w Tryz.underlying50 Tryz.underlying315 hi hcmp hj (by rw [hjs]; decide) hne ha hb
 go_enter Tryz.func79,Tryz.ntmps79
 go_wp2
 refine wp_loop_rounds 2 ?_
 rw [rounds_succ]
 go_wp2
 rw [rounds_succ]
 go_wp2
 go_ret
 exact ⟨rfl,rfl⟩
end Go.Proofs.YtekncgjkocgioaaGreatDoor
