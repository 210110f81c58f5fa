/-
  Operations, further: numbers, tests, parts. By an AI agent; no person has read it.
-/
import Derived.Test.YtjjiphigolegbaaDoorFvOps2
set_option linter.unusedVariables false
set_option linter.unusedSimpArgs false
set_option linter.unusedSectionVars false
/-! Operations, further: numbers, tests, parts. -/
namespace Go.Fv
open Go

section
variable {C : Cfg} {σ : Nat → Addr} {K : Ctx} {H H' : Heap} {w : World} {v : V}

theorem ok_arith {op : BinOp} {t : TypeId} {p q : Operand} {x y : V} {a b : Value} (hx : Rel σ K w x a) (hy : Rel σ K w y b) (h : arithV op x y = some v) :
    ∃ z, (do eqGuard op t p q a b; binOp op t a b : Sem Value).run C.P w = .ok z w ∧ Rel σ K w v z := by
  cases hx with
  | int k m =>
    cases hy with
    | int k' n =>
      have kk : ∀ {o : Option V} , (if k = k' then o else none) = some v → k = k' ∧ o = some v := fun h => by
        split at h
        · rename_i e; exact ⟨e, h⟩
        · cases h
      cases op <;> simp only [arithV, reduceCtorEq] at h
      case add => obtain ⟨rfl, h1⟩ := kk h; injection h1 with h1; subst h1; exact ⟨_, by simp [eqGuard, binOp, Op.intArith] <;> rfl, .int _ _⟩
      case sub => obtain ⟨rfl, h1⟩ := kk h; injection h1 with h1; subst h1; exact ⟨_, by simp [eqGuard, binOp, Op.intArith] <;> rfl, .int _ _⟩
      case mul => obtain ⟨rfl, h1⟩ := kk h; injection h1 with h1; subst h1; exact ⟨_, by simp [eqGuard, binOp, Op.intArith] <;> rfl, .int _ _⟩
      case and => obtain ⟨rfl, h1⟩ := kk h; injection h1 with h1; subst h1; exact ⟨_, by simp [eqGuard, binOp, Op.intBits] <;> rfl, .int _ _⟩
      case or => obtain ⟨rfl, h1⟩ := kk h; injection h1 with h1; subst h1; exact ⟨_, by simp [eqGuard, binOp, Op.intBits] <;> rfl, .int _ _⟩
      case xor => obtain ⟨rfl, h1⟩ := kk h; injection h1 with h1; subst h1; exact ⟨_, by simp [eqGuard, binOp, Op.intBits] <;> rfl, .int _ _⟩
      case lss => obtain ⟨rfl, h1⟩ := kk h; injection h1 with h1; subst h1; exact ⟨_, by simp [eqGuard, binOp, Op.intCmp] <;> rfl, .bool _⟩
      case leq => obtain ⟨rfl, h1⟩ := kk h; injection h1 with h1; subst h1; exact ⟨_, by simp [eqGuard, binOp, Op.intCmp] <;> rfl, .bool _⟩
      case gtr => obtain ⟨rfl, h1⟩ := kk h; injection h1 with h1; subst h1; exact ⟨_, by simp [eqGuard, binOp, Op.intCmp] <;> rfl, .bool _⟩
      case geq => obtain ⟨rfl, h1⟩ := kk h; injection h1 with h1; subst h1; exact ⟨_, by simp [eqGuard, binOp, Op.intCmp] <;> rfl, .bool _⟩
      case quo =>
        split at h
        · rename_i e; obtain ⟨rfl, h0⟩ := e; injection h with h; subst h
          exact ⟨_, by simp [eqGuard, binOp, Op.intDiv, h0] <;> rfl, .int _ _⟩
        · cases h
      case rem =>
        split at h
        · rename_i e; obtain ⟨rfl, h0⟩ := e; injection h with h; subst h
          exact ⟨_, by simp [eqGuard, binOp, Op.intDiv, h0] <;> rfl, .int _ _⟩
        · cases h
      case shl =>
        split at h
        · cases h
        · rename_i e; injection h with h; subst h
          exact ⟨_, by simp [eqGuard, binOp, Op.shift, e] <;> rfl, .int _ _⟩
      case shr =>
        split at h
        · cases h
        · rename_i e; injection h with h; subst h
          exact ⟨_, by simp [eqGuard, binOp, Op.shift, e] <;> rfl, .int _ _⟩
    | _ => simp [arithV] at h
  | str s =>
    cases hy with
    | str u =>
      cases op <;> simp only [arithV, reduceCtorEq] at h
      case add =>
        split at h
        · cases h
        · rename_i hk; injection h with h; subst h
          refine ⟨.string (s ++ u), ?_, .str _⟩
          have hk' : ¬ ((s.size : Int) + (u.size : Int) > IntKind.i64.max) := by simpa using hk
          have hm : IntKind.i64.max = 9223372036854775807 := by decide
          rw [hm] at hk'
          simp [eqGuard, binOp, Op.stringOp]
          omega
      case lss => injection h with h; subst h; exact ⟨_, by simp [eqGuard, binOp, Op.stringOp] <;> rfl, .bool _⟩
    | _ => simp [arithV] at h
  | _ => simp [arithV] at h

theorem ok_un {op : UnOp} {x : V} {a : Value} (hx : Rel σ K w x a) (h : unV op x = some v) : ∃ z, (Op.unary op a).run C.P w = .ok z w ∧ Rel σ K w v z := by
  cases hx <;> cases op <;> simp only [unV, reduceCtorEq] at h
  case bool.not b => injection h with h; subst h; exact ⟨_, by simp [Op.unary] <;> rfl, .bool _⟩
  case int.neg k n => injection h with h; subst h; exact ⟨_, by simp only [Op.unary, Op.intArith]; rfl, .int _ _⟩
  case int.xor k n => injection h with h; subst h; exact ⟨_, by simp only [Op.unary, Op.intBits]; rfl, .int _ _⟩

theorem ok_conv {s d : TypeId} {x : V} {a : Value} (hx : Rel σ K w x a) (h : convV C.P s d x = some v) : ∃ z, (convert s d a).run C.P w = .ok z w ∧ Rel σ K w v z := by
  unfold convV at h
  split at h
  · rename_i k hs hd
    rename_i ds
    cases hx <;> simp [convI] at h
    subst h
    exact ⟨_, by simp [convert, run_underlying hs, run_underlying hd, Conv.intToInt] <;> rfl, .int _ _⟩
  · rename_i hs hd
    cases hx <;> simp [convS] at h
    subst h
    exact ⟨_, by simp [convert, run_underlying hs, run_underlying hd] <;> rfl, .str _⟩
  · cases h

theorem ok_iface {t : TypeId} {x : V} {a : Value} (hx : Rel σ K w x a) (ht : isIface C.P t = false) (h : ifaceV t x = some v) : ∃ z, (Instr.makeInterface t a).run C.P w = .ok z w ∧ Rel σ K w v z := by
  have hu : ∃ d, C.P.underlying t = some d ∧ ∀ ms, d ≠ .interface ms := by
    unfold isIface at ht
    cases hh : C.P.underlying t with
    | none => rw [hh] at ht; cases ht
    | some d => exact ⟨d, rfl, fun ms e => by rw [hh, e] at ht; cases ht⟩
  obtain ⟨d, hd, hn⟩ := hu
  have hr : (Instr.makeInterface t a).run C.P w = .ok (.iface t a) w := by
    unfold Instr.makeInterface
    rw [Sem.run_bind, run_underlying hd]
    cases d <;> first | rfl | exact absurd rfl (hn _)
  unfold ifaceV at h
  refine ⟨_, hr, ?_⟩
  by_cases hc : x.isCell = true
  · rw [if_pos hc] at h
    injection h with h
    subst h
    exact .iface t x a (by cases x <;> simp_all [V.isCell, V.cells?]) hx
  · rw [if_neg hc] at h
    cases x <;> simp at h
    subst h
    exact .iface t _ a rfl hx

theorem ok_extract {x : V} {i : Nat} {a : Value} (hx : Rel σ K w x a) (h : extractV x i = some v) : ∃ z, (Instr.extract a i).run C.P w = .ok z w ∧ Rel σ K w v z := by
  cases hx with
  | tuple l cs hl hr =>
    simp only [extractV] at h
    have hlt : i < cs.size := by rw [← hl]; exact (List.getElem?_eq_some_iff.1 h).1
    exact ⟨cs[i], by simp [Instr.extract, hlt], hr i v _ h (by simp [hlt])⟩
  | _ => simp [extractV] at h

theorem ok_pick {c x y : V} {a b d : Value} (hc : Rel σ K w c a) (hx : Rel σ K w x b) (hy : Rel σ K w y d) (h : pickV c x y = some v) :
    ∃ t, a = .bool t ∧ Rel σ K w v (if t then b else d) := by
  cases hc <;> simp [pickV] at h
  rename_i t
  subst h
  refine ⟨t, rfl, ?_⟩
  cases t <;> simpa

theorem ok_indexS {t : TypeId} (ht : C.P.underlying t = some .string) {x i : V} {a b : Value} (hx : Rel σ K w x a) (hi : Rel σ K w i b) (h : indexS x i = some v) : ∃ z, (Instr.index t a b).run C.P w = .ok z w ∧ Rel σ K w v z := by
  cases hx with
  | str s =>
    cases hi with
    | int k n =>
      simp only [indexS] at h
      split at h
      · rename_i h0
        cases hb : s[n.toNat]? with
        | none => rw [hb] at h; simp at h
        | some u =>
          rw [hb] at h
          simp only [Option.bind_some, Option.some.injEq] at h
          subst h
          exact ⟨_, by simp only [Instr.index, asIntOf, Sem.run_bind, Sem.run_pure, Result.andThen_ok, run_underlying ht, if_pos h0, hb] <;> rfl, .int _ _⟩
      · cases h
    | _ => simp [indexS] at h
  | _ => simp [indexS] at h

/-- A part of an aggregate. -/
theorem ok_part {t : TypeId} {ag : Bool} (ht : isAgg C.P t = some ag) {l : List V} {cs : Array Value} (hx : Rel σ K w (.agg l) (.agg cs)) (off : Nat)
    (h : (if ag then (if off + C.P.cellsOf t ≤ l.length then some (V.agg ((l.drop off).take (C.P.cellsOf t))) else none) else l[off]?) = some v) :
    ∃ z, (part t cs off).run C.P w = .ok z w ∧ Rel σ K w v z := by
  cases hx with
  | agg l cs hl hc hr =>
    have hag := run_isAgg ht w
    have hi : ∃ i, C.P.info? t = some i := by
      unfold isAgg at ht
      cases hu : C.P.underlying t with
      | none => rw [hu] at ht; cases ht
      | some d => exact info_of_under hu
    obtain ⟨i, hi⟩ := hi
    cases ag with
    | true =>
      simp only [if_true] at h
      split at h
      · rename_i hle
        injection h with h
        subst h
        refine ⟨.agg (cs.extract off (off + C.P.cellsOf t)), by simp [part, hag, run_sizeOf hi], .agg _ _ ?_ ?_ ?_⟩
        · simp; omega
        · intro a ha
          exact hc a (List.mem_of_mem_drop (List.mem_of_mem_take ha))
        · intro j a b ha hb
          rw [List.getElem?_take] at ha
          split at ha
          · rw [List.getElem?_drop] at ha
            refine hr (off + j) a b ha ?_
            rw [Array.getElem?_extract] at hb
            split at hb
            · exact hb
            · cases hb
          · cases ha
      · cases h
    | false =>
      simp only [Bool.false_eq_true, if_false] at h
      have hlt : off < cs.size := by rw [← hl]; exact (List.getElem?_eq_some_iff.1 h).1
      exact ⟨cs[off], by simp [part, hag, hlt], hr off v _ h (by simp [hlt])⟩

theorem ok_field {s : TypeId} {fs : Array Field} {f : Nat} {fd : Field} {ag : Bool} (hs : C.P.underlying s = some (.struct fs)) (hf : fs[f]? = some fd) (ht : isAgg C.P fd.type = some ag) {x : V} {a : Value}
    (hx : Rel σ K w x a) (h : fieldV fd.offset (C.P.cellsOf fd.type) ag x = some v) : ∃ z, (Instr.field s a f).run C.P w = .ok z w ∧ Rel σ K w v z := by
  cases x with
  | agg l =>
    cases hx with
    | agg l cs hl hc hr =>
      obtain ⟨z, h1, h2⟩ := ok_part ht (Rel.agg l cs hl hc hr) fd.offset h
      exact ⟨z, by simp [Instr.field, run_underlying hs, hf, asAgg, h1], h2⟩
  | _ => simp [fieldV] at h

theorem ok_indexA {t el : TypeId} {len : Nat} {ag : Bool} (ht : C.P.underlying t = some (.array len el)) (ha : isAgg C.P el = some ag) {x i : V} {a b : Value} (hx : Rel σ K w x a) (hi : Rel σ K w i b)
    (h : indexA len (C.P.cellsOf el) ag x i = some v) : ∃ z, (Instr.index t a b).run C.P w = .ok z w ∧ Rel σ K w v z := by
  cases hi with
  | int k n =>
    cases x with
    | agg l =>
      cases hx with
      | agg l cs hl hc hr =>
        simp only [indexA] at h
        split at h
        · rename_i hh
          obtain ⟨z, h1, h2⟩ := ok_part ha (Rel.agg l cs hl hc hr) (n.toNat * C.P.cellsOf el) h
          have hinf : ∃ i, C.P.info? el = some i := by
            unfold isAgg at ha
            cases hu : C.P.underlying el with
            | none => rw [hu] at ha; cases ha
            | some d => exact info_of_under hu
          obtain ⟨inf, hinf⟩ := hinf
          exact ⟨z, by simp [Instr.index, asIntOf, run_underlying ht, hh.1, hh.2, run_sizeOf hinf, h1], h2⟩
        · cases h
    | _ => simp [indexA] at h
  | _ => cases x <;> simp [indexA] at h
end
end Go.Fv
