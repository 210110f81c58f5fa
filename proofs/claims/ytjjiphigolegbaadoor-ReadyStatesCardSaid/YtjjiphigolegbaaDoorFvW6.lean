/-
  errors.Is over sentinels, by its own text. errors.As at a variable of type *api.At, over sentinels, by its own text. errors.Is and errors.As stand for their plain meaning. errors.Is and errors.As stand for their plain meaning. By an AI agent; no person has read it.
-/
import Derived.Test.YtjjiphigolegbaaDoorChecked
import Derived.WalkKit
import Derived.LaidEql
import Derived.Stop.Asserts
import Derived.RowKitTokens
import Derived.Test.YtjjiphigolegbaaDoorFvCf
import Derived.Test.YtjjiphigolegbaaDoorFvW4
set_option linter.unusedVariables false
set_option linter.unusedSimpArgs false
set_option linter.unusedSectionVars false
/-! errors.Is over sentinels, by its own text. -/
namespace Go.Proofs.YtjjiphigolegbaaDoor
open Go Go.RowKit Go.Extern.Stop Go.Stop Go.Extern

theorem isTypeOf (v : Value) (w : World) : (Extern.ReflectliteType.typeOf #[.iface 251 v]).run Tryd.prog w = .ok (.iface 219 (.agg #[.pointer (some ⟨24, 251, none⟩)])) w := by kernel_rfl
theorem isComparable (w : World) : ((Extern.ReflectliteType.method fun t => do Go.Extern.Rtype.noPackHeld "Comparable" t; (fun a => Value.bool a.comparable) <$> typeInfo t) #[.agg #[.pointer (some ⟨24, 251, none⟩)]]).run Tryd.prog w = .ok (.bool true) w := by kernel_rfl
theorem isMethodComparable (v : Value) (w : World) : (Go.method 382 219 v "Comparable").run Tryd.prog w = .ok (190, v) w := by kernel_rfl
theorem isComp : (Tryd.prog.info? 251).map (·.comparable) = some true := by kernel_rfl
theorem isSize : (Tryd.prog.info? 270).map (·.size) = some 1 := by kernel_rfl
theorem noIsE (v : Value) (xT : TypeId) (w : World) : (Instr.typeAssert (.iface 251 v) xT 221 true).run Tryd.prog w = .ok (.tuple #[.nilIface, .bool false]) w := run_typeAssert_lacksB Tryd.underlying221 (by kernel_rfl) (by kernel_rfl) v xT w
theorem noUnwrapE (v : Value) (xT : TypeId) (w : World) : (Instr.typeAssert (.iface 251 v) xT 224 true).run Tryd.prog w = .ok (.tuple #[.nilIface, .bool false]) w := run_typeAssert_lacksB Tryd.underlying224 (by kernel_rfl) (by kernel_rfl) v xT w
theorem noUnwrapsE (v : Value) (xT : TypeId) (w : World) : (Instr.typeAssert (.iface 251 v) xT 226 true).run Tryd.prog w = .ok (.tuple #[.nilIface, .bool false]) w := run_typeAssert_lacksB Tryd.underlying226 (by kernel_rfl) (by kernel_rfl) v xT w

set_option maxRecDepth 100000 in
set_option maxHeartbeats 1000000 in
/-- errors.Is(x, x), x a pointer to an errors.errorString. -/
theorem is_same (a : Addr) (w : World) :
    Calls Tryd.prog 114 #[.iface 251 (.pointer (some a)), .iface 251 (.pointer (some a))] w fun e w' => e = .returned (.bool true) ∧ w' = w := by
  obtain ⟨i, hi, hcmp⟩ := Option.map_eq_some_iff.1 isComp
  obtain ⟨j, hj, hjs⟩ := Option.map_eq_some_iff.1 isSize
  have h8 := @run_callFunc_extern Tryd.prog 128 _ Extern.ReflectliteType.typeOf Tryd.func128 (by kernel_rfl) (by kernel_rfl) (by kernel_rfl) (by kernel_rfl)
  have h32 := @run_callFunc_extern Tryd.prog 190 _ (Extern.ReflectliteType.method fun t => do Go.Extern.Rtype.noPackHeld "Comparable" t; pure (.bool (← typeInfo t).comparable)) Tryd.func190 (by kernel_rfl) (by kernel_rfl) (by kernel_rfl) (by kernel_rfl)
  have tT := isTypeOf
  have cT := isComparable
  have mR := isMethodComparable
  have heq := run_eql_iface_ptr_same (P := Tryd.prog) w a Tryd.underlying37 Tryd.underlying251 hi hcmp hj
  go_enter Tryd.func114, Tryd.ntmps114
  go_wp2
  refine wp_loop_rounds 1 ?_
  rw [rounds_succ]
  go_wp2
  go_ret
  exact ⟨rfl, rfl⟩

set_option maxRecDepth 100000 in
set_option maxHeartbeats 1000000 in
/-- errors.Is(nil, x). -/
theorem is_nil (b : Addr) (w : World) :
    Calls Tryd.prog 114 #[.nilIface, .iface 251 (.pointer (some b))] w fun e w' => e = .returned (.bool false) ∧ w' = w := by
  have hn := run_eql_iface_nil_left (P := Tryd.prog) w 251 (.pointer (some b)) Tryd.underlying37
  go_enter Tryd.func114, Tryd.ntmps114
  go_wp2
  go_ret
  exact ⟨rfl, rfl⟩

set_option maxRecDepth 100000 in
set_option maxHeartbeats 1000000 in
/-- errors.Is(x, y), two different pointers to errors.errorString: neither has Is nor Unwrap: false. -/
theorem is_other (a b : Addr) (ca cb : Array Value) (ta tb : TypeId) (w : World) (hne : a ≠ b) (ha : w.heap[a.block]? = some (.cells ca ta (0, 0))) (hb : w.heap[b.block]? = some (.cells cb tb (0, 0))) :
    Calls Tryd.prog 114 #[.iface 251 (.pointer (some a)), .iface 251 (.pointer (some b))] w fun e w' => e = .returned (.bool false) ∧ w' = w := by
  obtain ⟨i, hi, hcmp⟩ := Option.map_eq_some_iff.1 isComp
  obtain ⟨j, hj, hjs⟩ := Option.map_eq_some_iff.1 isSize
  have h8 := @run_callFunc_extern Tryd.prog 128 _ Extern.ReflectliteType.typeOf Tryd.func128 (by kernel_rfl) (by kernel_rfl) (by kernel_rfl) (by kernel_rfl)
  have h32 := @run_callFunc_extern Tryd.prog 190 _ (Extern.ReflectliteType.method fun t => do Go.Extern.Rtype.noPackHeld "Comparable" t; pure (.bool (← typeInfo t).comparable)) Tryd.func190 (by kernel_rfl) (by kernel_rfl) (by kernel_rfl) (by kernel_rfl)
  have tT := isTypeOf
  have cT := isComparable
  have mR := isMethodComparable
  have nE := noIsE
  have uE := noUnwrapE
  have vE := noUnwrapsE
  have heq := run_eql_iface_ptr_other (P := Tryd.prog) w Tryd.underlying37 Tryd.underlying251 hi hcmp hj (by rw [hjs]; decide) hne ha hb
  go_enter Tryd.func114, Tryd.ntmps114
  go_wp2
  refine wp_loop_rounds 1 ?_
  rw [rounds_succ]
  go_wp2
  go_ret
  exact ⟨rfl, rfl⟩
end Go.Proofs.YtjjiphigolegbaaDoor

/-! errors.As at a variable of type *api.At, over sentinels, by its own text. -/
namespace Go.Proofs.YtjjiphigolegbaaDoor
open Go Go.RowKit Go.Extern.Stop Go.Stop Go.Extern

set_option maxRecDepth 100000 in
/-- errors.As(nil, target). -/
theorem as_nil (t : Value) (w : World) :
    Calls Tryd.prog 116 #[.nilIface, t] w fun e w' => e = .returned (.bool false) ∧ w' = w := by
  go_enter Tryd.func116, Tryd.ntmps116
  go_wp2
  go_ret
  exact ⟨rfl, rfl⟩

theorem valueOf182 (t : Addr) (w : World) : (ReflectliteValue.unpack (.iface 182 (.pointer (some t)))).run Tryd.prog w
    = .ok (.agg #[.pointer (some ⟨24, 182, none⟩), .pointer (some ⟨w.heap.size, 0, none⟩), .int .u64 150]) (w.alloc (.cells #[.pointer (some t)] 182)) := by kernel_rfl
theorem type182 (a : Addr) (w : World) : (ReflectliteValue.methodAny (ReflectliteValue.valueError "reflectlite.Value.Type" 0) (fun t _ _ _ => ReflectliteType.toType t) #[.agg #[.pointer (some ⟨24, 182, none⟩), .pointer (some a), .int .u64 150]]).run Tryd.prog w
    = .ok (.iface 219 (.agg #[.pointer (some ⟨24, 182, none⟩)])) w := by kernel_rfl
theorem methodKind (h : Value) (w : World) : (Go.method 382 219 (.agg #[h]) "Kind").run Tryd.prog w = .ok (179, h) w := by kernel_rfl
theorem kind182 (w : World) : ((ReflectliteType.abiMethod fun t => (fun a : Nat => Value.int IntKind.u8 (a : Int)) <$> Rtype.kind t) #[.pointer (some ⟨24, 182, none⟩)]).run Tryd.prog w = .ok (.int .u8 22) w := by kernel_rfl
theorem kind180 (w : World) : ((ReflectliteType.abiMethod fun t => (fun a : Nat => Value.int IntKind.u8 (a : Int)) <$> Rtype.kind t) #[.pointer (some ⟨24, 180, none⟩)]).run Tryd.prog w = .ok (.int .u8 22) w := by kernel_rfl
theorem rlm (z : Sem Value) (f : TypeId → Addr → Nat → Nat → Sem Value) (v : Value) :
    ReflectliteValue.method z f #[v] = (do match ← ReflectliteValue.parts v with | none => z | some (t, a, fl) => f t a fl (fl % 32)) := rfl
theorem parts182 (a : Addr) (w : World) : (ReflectliteValue.parts (.agg #[.pointer (some ⟨24, 182, none⟩), .pointer (some a), .int .u64 150])).run Tryd.prog w = .ok (some (182, a, 150)) w := by kernel_rfl
theorem isNil182 (a p : Addr) (W : World) (ha : W.cell? a = some (.pointer (some p))) :
    (ReflectliteValue.method (ReflectliteValue.valueError "reflectlite.Value.IsNil" 0) ReflectliteValue.isNil #[.agg #[.pointer (some ⟨24, 182, none⟩), .pointer (some a), .int .u64 150]]).run Tryd.prog W = .ok (.bool false) W := by
  rw [rlm]
  simp only [Sem.run_bind, parts182, Result.andThen]
  simp [ReflectliteValue.isNil, loadVar, isAgg, underlying, Tryd.underlying182, ha, Result.andThen]
theorem methodElem (h : Value) (w : World) : (Go.method 382 219 (.agg #[h]) "Elem").run Tryd.prog w = .ok (191, .agg #[h]) w := by kernel_rfl
theorem methodImplements (h : Value) (w : World) : (Go.method 382 219 (.agg #[h]) "Implements").run Tryd.prog w = .ok (192, .agg #[h]) w := by kernel_rfl
theorem methodAssignableTo (h : Value) (w : World) : (Go.method 382 219 (.agg #[h]) "AssignableTo").run Tryd.prog w = .ok (189, .agg #[h]) w := by kernel_rfl
theorem elem182 (w : World) : (ReflectliteType.method ReflectliteType.elem #[.agg #[.pointer (some ⟨24, 182, none⟩)]]).run Tryd.prog w = .ok (.iface 219 (.agg #[.pointer (some ⟨24, 180, none⟩)])) w := by kernel_rfl
theorem implements180 (w : World) : (ReflectliteType.relation "Implements" ReflectliteType.implements_ #[.agg #[.pointer (some ⟨24, 180, none⟩)], .iface 219 (.agg #[.pointer (some ⟨24, 37, none⟩)])]).run Tryd.prog w = .ok (.bool true) w := by kernel_rfl
theorem assignable251 (w : World) : (ReflectliteType.relation "AssignableTo" ReflectliteType.assignableTo #[.agg #[.pointer (some ⟨24, 251, none⟩)], .iface 219 (.agg #[.pointer (some ⟨24, 180, none⟩)])]).run Tryd.prog w = .ok (.bool false) w := by kernel_rfl
theorem noAsE (v : Value) (xT : TypeId) (w : World) : (Instr.typeAssert (.iface 251 v) xT 231 true).run Tryd.prog w = .ok (.tuple #[.nilIface, .bool false]) w := run_typeAssert_lacksB Tryd.underlying231 (by kernel_rfl) (by kernel_rfl) v xT w

set_option maxRecDepth 100000 in
set_option maxHeartbeats 4000000 in
/-- errors.As(x, &a), x a pointer to an errors.errorString, a of type *api.At: false. -/
theorem as_miss (e t : Addr) (w : World) (hg : w.cell? ⟨20, 0, none⟩ = some (.iface 219 (.agg #[.pointer (some ⟨24, 37, none⟩)]))) :
    Calls Tryd.prog 116 #[.iface 251 (.pointer (some e)), .iface 182 (.pointer (some t))] w fun ev w' => ev = .returned (.bool false) ∧ ∃ o1 o2 o3, w' = ((w.alloc o1).alloc o2).alloc o3 := by
  have h6 := @run_callFunc_extern Tryd.prog 130 _ (fun args => ReflectliteValue.unpack (args.getD 0 (.tuple #[]))) Tryd.func130 (by kernel_rfl) (by kernel_rfl) (by kernel_rfl) (by kernel_rfl)
  have h7 := @run_callFunc_extern Tryd.prog 131 _ (ReflectliteValue.methodAny (ReflectliteValue.valueError "reflectlite.Value.Type" 0) (fun t _ _ _ => ReflectliteType.toType t)) Tryd.func131 (by kernel_rfl) (by kernel_rfl) (by kernel_rfl) (by kernel_rfl)
  have h8 := @run_callFunc_extern Tryd.prog 132 _ (ReflectliteValue.method (ReflectliteValue.valueError "reflectlite.Value.IsNil" 0) ReflectliteValue.isNil) Tryd.func132 (by kernel_rfl) (by kernel_rfl) (by kernel_rfl) (by kernel_rfl)
  have h27 := @run_callFunc_extern Tryd.prog 179 _ (ReflectliteType.abiMethod fun t => do pure (.int .u8 (← Rtype.kind t))) Tryd.func179 (by kernel_rfl) (by kernel_rfl) (by kernel_rfl) (by kernel_rfl)
  have h37 := @run_callFunc_extern Tryd.prog 191 _ (ReflectliteType.method ReflectliteType.elem) Tryd.func191 (by kernel_rfl) (by kernel_rfl) (by kernel_rfl) (by kernel_rfl)
  have h38 := @run_callFunc_extern Tryd.prog 192 _ (ReflectliteType.relation "Implements" ReflectliteType.implements_) Tryd.func192 (by kernel_rfl) (by kernel_rfl) (by kernel_rfl) (by kernel_rfl)
  have h10 := @run_callFunc_extern Tryd.prog 128 _ ReflectliteType.typeOf Tryd.func128 (by kernel_rfl) (by kernel_rfl) (by kernel_rfl) (by kernel_rfl)
  have h35 := @run_callFunc_extern Tryd.prog 189 _ (ReflectliteType.relation "AssignableTo" ReflectliteType.assignableTo) Tryd.func189 (by kernel_rfl) (by kernel_rfl) (by kernel_rfl) (by kernel_rfl)
  have tO := isTypeOf
  have mA := methodAssignableTo
  have a25 := assignable251
  have f6 := valueOf182
  have f7 := type182
  have mK := methodKind
  have mE := methodElem
  have mI := methodImplements
  have k27 := kind182
  have k25 := kind180
  have e27 := elem182
  have i25 := implements180
  have nA := noAsE
  have uE := noUnwrapE
  have vE := noUnwrapsE
  have n8 := isNil182 ⟨w.heap.size, 0, none⟩ t ((w.alloc (.cells #[.pointer (some t)] 182)).alloc (.cells #[.pointer (some ⟨24, 182, none⟩), .pointer (some ⟨w.heap.size, 0, none⟩), .int .u64 150] 200)) (by simp)
  have hlt : 20 < w.heap.size := World.block_lt_of_cell? w _ hg
  have hg2 : ((w.alloc (.cells #[.pointer (some t)] 182)).alloc (.cells #[.pointer (some ⟨24, 182, none⟩), .pointer (some ⟨w.heap.size, 0, none⟩), .int .u64 150] 200)).cell? ⟨20, 0, none⟩ = some (.iface 219 (.agg #[.pointer (some ⟨24, 37, none⟩)])) := by
    rw [World.cell?_alloc_lt _ _ ⟨20, 0, none⟩ (by simp; omega), World.cell?_alloc_lt _ _ ⟨20, 0, none⟩ hlt]; exact hg
  go_enter Tryd.func116, Tryd.ntmps116
  go_wp2
  refine wp_loop_rounds 1 ?_
  rw [rounds_succ]
  go_wp2
  go_ret
  exact ⟨rfl, _, _, _, rfl⟩
end Go.Proofs.YtjjiphigolegbaaDoor

/-! errors.Is and errors.As stand for their plain meaning. -/
namespace Go.Proofs.YtjjiphigolegbaaDoor
open Go Go.Fv Go.Fv.Tr

theorem mixed : Tryd.prog.follows .mixedOrders = true := by kernel_rfl
theorem callable {f : FuncId} {fn : Func} (h : Tryd.prog.funcs[f]? = some fn) (hb : fn.body.isSome = true) (hn : decide (fn.name = "runtime.NumGoroutine") = false) : Callable Tryd.prog f := ⟨fn, h, hb, of_decide_eq_false hn⟩
theorem args2 {σ : Nat → Addr} {K : Ctx} {w : World} {a b : V} {xs : Array Value} (h : ArgsRel σ K w [a, b] xs) : ∃ x y, xs = #[x, y] ∧ Rel σ K w a x ∧ Rel σ K w b y := by
  obtain ⟨hl, hr⟩ := h
  have hs : xs.size = 2 := hl.symm
  have e : xs = #[xs[0], xs[1]] := by
    apply Array.ext
    · simpa using hs
    · intro i h1 h2
      have : i = 0 ∨ i = 1 := by
        have : i < 2 := by omega
        omega
      rcases this with rfl | rfl <;> rfl
  exact ⟨xs[0], xs[1], e, hr 0 a xs[0] rfl (Array.getElem?_eq_getElem _), hr 1 b xs[1] rfl (Array.getElem?_eq_getElem _)⟩

/-- Different sentinels lie at different places. -/
def Apart (G : Nat → Option (List V)) (σ : Nat → Addr) : Prop := ∀ i j, sentOf G i = true → sentOf G j = true → i ≠ j → σ i ≠ σ j

theorem kind_ext {f : FuncId} (h : kindOf f = .ext) : exts.contains f = true := by
  unfold kindOf at h
  by_cases h0 : exts.contains f = true
  · exact h0
  rw [if_neg h0] at h
  by_cases h1 : seens.contains f = true
  · rw [if_pos h1] at h; cases h
  rw [if_neg h1] at h
  by_cases h2 : efs.contains f = true
  · rw [if_pos h2] at h; cases h
  rw [if_neg h2] at h
  by_cases h3 : pures.contains f = true
  · rw [if_pos h3] at h; cases h
  rw [if_neg h3] at h
  by_cases h4 : owns.contains f = true
  · rw [if_pos h4] at h; cases h
  rw [if_neg h4] at h
  cases h
theorem kind_exts {f : FuncId} (h : kindOf f = .exts) : seens.contains f = true := by
  unfold kindOf at h
  by_cases h0 : exts.contains f = true
  · rw [if_pos h0] at h; cases h
  rw [if_neg h0] at h
  by_cases h1 : seens.contains f = true
  · exact h1
  rw [if_neg h1] at h
  by_cases h2 : efs.contains f = true
  · rw [if_pos h2] at h; cases h
  rw [if_neg h2] at h
  by_cases h3 : pures.contains f = true
  · rw [if_pos h3] at h; cases h
  rw [if_neg h3] at h
  by_cases h4 : owns.contains f = true
  · rw [if_pos h4] at h; cases h
  rw [if_neg h4] at h
  cases h
theorem kind_extm {f : FuncId} (h : kindOf f = .extm) : efs.contains f = true := by
  unfold kindOf at h
  by_cases h0 : exts.contains f = true
  · rw [if_pos h0] at h; cases h
  rw [if_neg h0] at h
  by_cases h1 : seens.contains f = true
  · rw [if_pos h1] at h; cases h
  rw [if_neg h1] at h
  by_cases h2 : efs.contains f = true
  · exact h2
  rw [if_neg h2] at h
  by_cases h3 : pures.contains f = true
  · rw [if_pos h3] at h; cases h
  rw [if_neg h3] at h
  by_cases h4 : owns.contains f = true
  · rw [if_pos h4] at h; cases h
  rw [if_neg h4] at h
  cases h
theorem goodG {G : Nat → Option (List V)} {σ : Nat → Addr} (he : ∀ f, exts.contains f = true → SoundF (cfg G) σ f fun args => M.lift (extX G f args)) (hs : ∀ f, seens.contains f = true → SoundF (cfg G) σ f fun args => M.lift (extX G f args))
    (hm : ∀ f, efs.contains f = true → SoundF (cfg G) σ f ((cfg G).Y f)) : Fv.Good (cfg G) σ := ⟨mixed, fun f hf => he f (kind_ext hf), fun f hf => hs f (kind_exts hf), fun f hf => hm f (kind_extm hf)⟩
end Go.Proofs.YtjjiphigolegbaaDoor

/-! errors.Is and errors.As stand for their plain meaning. -/
namespace Go.Proofs.YtjjiphigolegbaaDoor
open Go Go.Fv Go.Fv.Tr

theorem is_sound {G : Nat → Option (List V)} {σ : Nat → Addr} (hσ : Apart G σ) : SoundF (cfg G) σ 114 fun args => M.lift (extX G 114 args) := by
  intro K H w vs xs v H' inv gl ar h
  refine ⟨callable Tryd.func114 (by kernel_rfl) (by kernel_rfl), ?_⟩
  have h0 : extX G 114 vs = isX G vs := if_pos rfl
  have hx : isX G vs = some v ∧ H' = H := by
    rw [← h0]
    cases e : extX G 114 vs with
    | none => simp only [M.lift, e] at h; cases h
    | some u => simp only [M.lift, e, Option.bind_some] at h; cases h; exact ⟨rfl, rfl⟩
  obtain ⟨hx, rfl⟩ := hx
  have same : ∀ b, v = .bool b → ∀ (e : Ending) w', (e = .returned (.bool b) ∧ w' = w) → ∃ x, e = .returned x ∧ Leads (cfg G) σ K H' w v H' x w' := by
    rintro b rfl e w' ⟨rfl, rfl⟩
    exact ⟨_, rfl, leads_same inv (.bool b)⟩
  unfold isX at hx
  split at hx
  · rename_i j
    cases hx
    obtain ⟨x, y, rfl, r1, r2⟩ := args2 ar
    cases r1
    cases r2 with
    | iface t u y hc hr =>
      cases hr
      exact (is_nil (σ j) w).mono (same false rfl)
  · rename_i i j
    obtain ⟨x, y, rfl, r1, r2⟩ := args2 ar
    cases r1 with
    | iface t u x' hc1 hr1 =>
      cases hr1
      cases r2 with
      | iface t2 u2 y' hc2 hr2 =>
        cases hr2
        split at hx
        · rename_i e
          have e : i = j := by simpa using e
          subst e
          cases hx
          exact (is_same (σ i) w).mono (same true rfl)
        · rename_i hne
          split at hx
          · rename_i hs
            rw [Bool.and_eq_true] at hs
            cases hx
            obtain ⟨_, c1, t1, h1⟩ := gl.s i hs.1
            obtain ⟨_, c2, t2, h2⟩ := gl.s j hs.2
            exact (is_other (σ i) (σ j) c1 c2 t1 t2 w (hσ i j hs.1 hs.2 (by simpa using hne)) h1 h2).mono (same false rfl)
          · cases hx
  · cases hx

theorem as_sound {G : Nat → Option (List V)} {σ : Nat → Addr} : SoundF (cfg G) σ 116 fun args => M.lift (extX G 116 args) := by
  intro K H w vs xs v H' inv gl ar h
  refine ⟨callable Tryd.func116 (by kernel_rfl) (by kernel_rfl), ?_⟩
  have h0 : extX G 116 vs = asX G vs := by unfold extX; rw [if_neg (by decide), if_pos rfl]
  have hx : asX G vs = some v ∧ H' = H := by
    rw [← h0]
    cases e : extX G 116 vs with
    | none => simp only [M.lift, e] at h; cases h
    | some u => simp only [M.lift, e, Option.bind_some] at h; cases h; exact ⟨rfl, rfl⟩
  obtain ⟨hx, rfl⟩ := hx
  unfold asX at hx
  split at hx
  · cases hx
    obtain ⟨x, y, rfl, r1, r2⟩ := args2 ar
    cases r1
    refine (as_nil y w).mono fun e w' ⟨h1, h2⟩ => ?_
    subst h1; subst h2
    exact ⟨_, rfl, leads_same inv (.bool false)⟩
  · split at hx
    · rename_i hh
      cases hx
      obtain ⟨x, y, rfl, r1, r2⟩ := args2 ar
      have hz : w.cell? ⟨20, 0, none⟩ = some (.iface 219 (.agg #[.pointer (some ⟨24, 37, none⟩)])) := (gl.z 20 _ (by show (if 20 = 20 ∧ handOf G = true then _ else _) = _; rw [if_pos ⟨rfl, hh⟩])).2
      cases r1 with
      | iface t u x' hc1 hr1 =>
        cases hr1
        cases r2 with
        | iface t2 u2 y' hc2 hr2 =>
          cases hr2
          refine (as_miss _ _ w hz).mono fun e w' ⟨h1, o1, o2, o3, h2⟩ => ?_
          subst h1; subst h2
          obtain ⟨i1, e1⟩ := inv.junk o1
          obtain ⟨i2, e2⟩ := i1.junk o2
          obtain ⟨i3, e3⟩ := i2.junk o3
          exact ⟨_, rfl, K, .bool false, i3, Evo.trans inv i2 (Evo.trans inv i1 e1 e2) e3⟩
    · cases hx
  · cases hx

theorem good {G : Nat → Option (List V)} {σ : Nat → Addr} (hσ : Apart G σ) (h0 : exts = [114, 116] ∧ efs = []) (hs : ∀ f, seens.contains f = true → SoundF (cfg G) σ f fun args => M.lift (extX G f args)) : Fv.Good (cfg G) σ := goodG
  (fun f hf => by
    rw [h0.1] at hf
    have he : f = 114 ∨ f = 116 := by simpa using hf
    rcases he with rfl | rfl
    · exact is_sound hσ
    · exact as_sound) hs (fun f hf => by rw [h0.2] at hf; cases hf)
theorem goodN {G : Nat → Option (List V)} {σ : Nat → Addr} (hσ : Apart G σ) (h : exts = [114, 116] ∧ efs = [] ∧ seens = []) : Fv.Good (cfg G) σ := good hσ ⟨h.1, h.2.1⟩ fun f hf => by rw [h.2.2] at hf; cases hf
end Go.Proofs.YtjjiphigolegbaaDoor
