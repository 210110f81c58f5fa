/-
  One operation, whatever it is. Calls: what a callee sees, and what it hands back. Calls that hand back memory of their own. One operation, with the calls. Code: regions, branches, loops, whole functions. The orders that a region leaves open. An operation sees only what it is pointed at. Guarded operations: what they look at, and what they see. By an AI agent; no person has read it.
-/
import Derived.Test.YtoogammidjhfgaaDoorFvW1
import Derived.Orders
import Derived.LoopN
set_option linter.unusedVariables false
set_option linter.unusedSimpArgs false
set_option linter.unusedSectionVars false
/-! One operation, whatever it is. -/
namespace Go.Fv
open Go

/-- What an operation leads to. -/
def Leads (C : Cfg) (σ : Nat → Addr) (K : Ctx) (H : Heap) (w : World) (v : V) (H' : Heap) (x : Value) (w' : World) : Prop :=
  ∃ K', Rel σ K' w' v x ∧ Inv σ K' H' w' ∧ Evo K H w K' H' w'

structure GlobOk (C : Cfg) (σ : Nat → Addr) (K : Ctx) (w : World) : Prop where
  g : ∀ g row, C.G g = some row → Rel σ K w (.iptr row 0) (.pointer (some ⟨g, 0, none⟩))
  s : ∀ k, C.S k = true → K.I (σ k).block ∧ ∃ cs t, w.heap[(σ k).block]? = some (Obj.cells cs t (0, 0))
  z : ∀ g v, C.Z g = some v → K.I g ∧ w.cell? ⟨g, 0, none⟩ = some v
  t : ∀ g cs, C.T g = some cs → K.I g ∧ ∃ e f, w.heap[g]? = some (Obj.cells cs e f)

theorem GlobOk.mono {C : Cfg} {σ : Nat → Addr} {K K' : Ctx} {w w' : World} (h : GlobOk C σ K w) (m : Moves K K' w w') : GlobOk C σ K' w' :=
  ⟨fun g row hg => (h.g g row hg).mono m, fun k hk => ⟨m.I _ (h.s k hk).1, by rw [m.same _ (h.s k hk).1]; exact (h.s k hk).2⟩,
   fun g v hg => ⟨m.I _ (h.z g v hg).1, (cell?_same (m.same _ (h.z g v hg).1)).trans (h.z g v hg).2⟩,
   fun g cs hg => ⟨m.I _ (h.t g cs hg).1, by rw [m.same _ (h.t g cs hg).1]; exact (h.t g cs hg).2⟩⟩

structure EnvRel (σ : Nat → Addr) (K : Ctx) (w : World) (N : Nat) (env : Env) (a : Act) : Prop where
  size : N ≤ a.tmps.size
  defers : a.defers = []
  tmp : ∀ t, Rel σ K w (env t) (a.tmps.getD t Go.undef)

theorem EnvRel.mono {σ : Nat → Addr} {K K' : Ctx} {w w' : World} {N : Nat} {env : Env} {a : Act} (h : EnvRel σ K w N env a) (m : Moves K K' w w') : EnvRel σ K' w' N env a :=
  ⟨h.size, h.defers, fun t => (h.tmp t).mono m⟩

theorem EnvRel.ev {C : Cfg} {σ : Nat → Addr} {K : Ctx} {w : World} {N : Nat} {env : Env} {a : Act} (h : EnvRel σ K w N env a) (g : GlobOk C σ K w) (x : Operand) : Rel σ K w (ev C env x) (a.eval x) := by
  cases x with
  | tmp t => exact h.tmp t
  | const v => exact rel_cstV v
  | global k =>
    show Rel σ K w (match C.G k with | some row => .iptr row 0 | none => .undef) _
    cases hk : C.G k with
    | none => exact .undef _
    | some row => exact g.g k row hk
  | func f => exact .fn f [] #[] rfl (fun i a b h => by simp at h)

theorem EnvRel.put {σ : Nat → Addr} {K : Ctx} {w : World} {N : Nat} {env : Env} {a : Act} (h : EnvRel σ K w N env a) {d : Option Tmp} (hd : ∀ t, d = some t → t < N) {v : V} {x : Value} (hr : Rel σ K w v x) : EnvRel σ K w N (put env d v) (a.put d x) := by
  cases d with
  | none => exact h
  | some d =>
    refine ⟨by simp [Act.put]; exact h.size, h.defers, fun t => ?_⟩
    simp only [Fv.put, Act.put]
    by_cases e : t = d
    · subst e
      have hlt : t < a.tmps.size := Nat.lt_of_lt_of_le (hd t rfl) h.size
      simp [hlt]
      exact hr
    · rw [if_neg e]
      have : (a.tmps.setIfInBounds d x).getD t Go.undef = a.tmps.getD t Go.undef := by
        simp only [Array.getD_eq_getD_getElem?]
        rw [Array.getElem?_setIfInBounds_ne (Ne.symm e)]
      rw [this]
      exact h.tmp t

section
variable {C : Cfg} {σ : Nat → Addr} {K : Ctx} {H H' : Heap} {w : World} {v : V}

theorem info_of_cells {t : TypeId} (h : 0 < C.P.cellsOf t) : ∃ i, C.P.info? t = some i := by
  cases hq : C.P.info? t with
  | some i => exact ⟨i, rfl⟩
  | none => simp [Program.cellsOf, hq] at h

def Runs (P : Program) (s : Sem Next) (w : World) (x : Value) (w' : World) : Prop := s.run P w = .ok (.value x) w' ∨ (s.run P w = .ok .skip w' ∧ x = Go.undef)

theorem runs_value {P : Program} {s : Sem Value} {x : Value} {w' : World} (h : s.run P w = .ok x w') : Runs P (do pure (.value (← s))) w x w' := .inl (by simp [h])

theorem leads_same (inv : Inv σ K H w) {x : Value} (h : Rel σ K w v x) : Leads C σ K H w v H x w := ⟨K, h, inv, .refl _ _ _⟩

theorem opt_rel {e : Operand → V} {ρ : Operand → Value} (E : ∀ x, Rel σ K w (e x) (ρ x)) (o : Option Operand) : (o.map e = none ∧ o.map ρ = none) ∨ ∃ a b, o.map e = some a ∧ o.map ρ = some b ∧ Rel σ K w a b := by
  cases o with
  | none => exact .inl ⟨rfl, rfl⟩
  | some x => exact .inr ⟨_, _, rfl, rfl, E x⟩

/-- Every operation that is no call. -/
theorem ok_op (inv : Inv σ K H w) {e : Operand → V} {ρ : Operand → Value} (E : ∀ x, Rel σ K w (e x) (ρ x)) (o : Oper) (h : opV C e o.op H = some (v, H')) :
    ∃ x w', Runs C.P (execOp ρ o) w x w' ∧ Leads C σ K H w v H' x w' := by
  obtain ⟨dst, op, type, pos, after, guard⟩ := o
  cases op
  case move x => simp only [opV, M.ret, Option.some.injEq, Prod.mk.injEq] at h; obtain ⟨rfl, rfl⟩ := h; exact ⟨_, w, .inl rfl, leads_same inv (E x)⟩
  case assign x => simp only [opV, M.ret, Option.some.injEq, Prod.mk.injEq] at h; obtain ⟨rfl, rfl⟩ := h; exact ⟨_, w, .inl rfl, leads_same inv (E x)⟩
  case pick c a b =>
    obtain ⟨h2, rfl⟩ := lift_eq h
    obtain ⟨t, h3, h4⟩ := ok_pick (E c) (E a) (E b) h2
    exact ⟨_, w, .inl (by simp [execOp, h3, asBool]), leads_same inv h4⟩
  case alloc t =>
    simp only [opV] at h
    cases hz : zeroC C.P t with
    | none => rw [hz] at h; cases h
    | some z =>
      rw [hz] at h
      obtain ⟨i, zv, hi, hzv, hrz⟩ := zeroC_rel (σ := σ) (K := K) (w := w) hz
      obtain ⟨y, w', K', h1, h2, h3, h4⟩ := ok_new (C := C) (t := t) inv hrz h
      have hnew : (newVar t zv).run C.P w = .ok y w' := h1
      exact ⟨_, w', runs_value (s := Instr.alloc t true (.tuple #[])) (by simp [Instr.alloc, run_zeroValue hi hzv, hnew]), K', h2, h3, h4⟩
  case box t x =>
    obtain ⟨y, w', K', h1, h2, h3, h4⟩ := ok_new (C := C) (t := t) inv (E x) h
    exact ⟨_, w', runs_value (s := Instr.box t (ρ x)) (by simp [Instr.box, h1]), K', h2, h3, h4⟩
  case build t parts =>
    obtain ⟨z, h1, h2, rfl⟩ := ok_build E h
    exact ⟨_, w, runs_value h1, leads_same inv h2⟩
  case buildSlice t len parts =>
    obtain ⟨z, w', K', h1, h2, h3, h4⟩ := ok_buildSlice inv E h
    exact ⟨_, w', runs_value h1, K', h2, h3, h4⟩
  case load t p =>
    obtain ⟨y, h1, h2, rfl⟩ := ok_load inv (E p) h
    exact ⟨_, w, runs_value h1, leads_same inv h2⟩
  case store t p x =>
    simp only [opV] at h
    split at h
    case isFalse => cases h
    rename_i h0
    obtain ⟨i, hi⟩ := info_of_cells h0
    obtain ⟨w', h1, rfl, h3, h4⟩ := ok_store inv (E p) (E x) hi h
    exact ⟨_, w', .inr ⟨by simp [execOp, h1], rfl⟩, K, .undef _, h3, h4⟩
  case nilCheck x =>
    obtain ⟨h2, rfl⟩ := lift_eq h
    have hx := E x
    have key : ∀ (p : V) (y : Value), Rel σ K w p y → nilCheckV p = some v → v = p ∧ (y ≠ .pointer none ∧ y ≠ .nilIface ∧ y ≠ .nilFunc ∧ ∀ n f c, y ≠ .func (.method n) f c) := by
      intro p y hp hn
      cases hp <;> simp [nilCheckV] at hn <;> subst hn <;> simp
    obtain ⟨rfl, h3⟩ := key _ _ hx h2
    obtain ⟨n1, n2, n3, n4⟩ := h3
    refine ⟨ρ x, w, .inl ?_, leads_same inv hx⟩
    unfold execOp
    simp only
    rfl
  case binOp op t x y yt =>
    obtain ⟨h2, rfl⟩ := lift_eq h
    have arith : ∀ {op}, arithV op (e x) (e y) = some v → ∃ z w', Runs C.P (do pure (.value (← (do eqGuard op t x y (ρ x) (ρ y); binOp op t (ρ x) (ρ y) : Sem Value)))) w z w' ∧ Leads C σ K H' w v H' z w' := fun h => by
      obtain ⟨z, h3, h4⟩ := ok_arith (t := t) (p := x) (q := y) (E x) (E y) h
      exact ⟨z, w, runs_value h3, leads_same inv h4⟩
    cases op <;> first
      | exact arith h2
      | (simp only [binV] at h2
         cases hT : eqTy C.P t with
         | none => rw [hT] at h2; cases h2
         | some T =>
           rw [hT] at h2
           simp only at h2
           cases hv : eqV T (isConst x || isConst y) (e x) (e y) with
           | none => rw [hv] at h2; simp at h2
           | some r =>
             rw [hv] at h2
             simp only [Option.bind_some, Option.some.injEq] at h2
             subst h2
             have := ok_eq hT (p := x) (q := y) (fun h => h) (E x) (E y) hv
             first
               | exact ⟨_, w, runs_value this.1, leads_same inv (.bool _)⟩
               | exact ⟨_, w, runs_value this.2, leads_same inv (.bool _)⟩)
  case unOp op t x =>
    obtain ⟨h2, rfl⟩ := lift_eq h
    obtain ⟨z, h3, h4⟩ := ok_un (C := C) (E x) h2
    exact ⟨z, w, runs_value h3, leads_same inv h4⟩
  case convert s d x =>
    obtain ⟨z, w', K', h1, h2, h3, h4⟩ := ok_convM inv (E x) h
    exact ⟨z, w', runs_value h1, K', h2, h3, h4⟩
  case makeInterface t x =>
    simp only [opV] at h
    split at h
    · cases h
    · rename_i ht
      obtain ⟨h2, rfl⟩ := lift_eq h
      obtain ⟨z, h3, h4⟩ := ok_iface (E x) (by simpa using ht) h2
      exact ⟨z, w, runs_value h3, leads_same inv h4⟩
  case makeFunc fn first caps =>
    cases fn <;> simp only [opV] at h <;> try (cases h; done)
    rename_i f
    split at h
    · rename_i h0
      simp only [M.ret, Option.some.injEq, Prod.mk.injEq] at h
      obtain ⟨rfl, rfl⟩ := h
      have hf : first = #[] := Array.eq_empty_of_size_eq_zero h0
      subst hf
      refine ⟨.func (.func f) #[] (caps.map ρ), w, .inl (by simp [execOp, Instr.makeFunc]), leads_same inv (.fn f _ _ (by simp) ?_)⟩
      intro i a b ha hb
      rw [List.getElem?_map] at ha
      rw [Array.getElem?_map] at hb
      rw [Array.getElem?_toList] at ha
      cases hq : caps[i]? with
      | none => rw [hq] at ha; simp at ha
      | some x => rw [hq] at ha hb; simp at ha hb; subst ha; subst hb; exact E x
    · cases h
  case makeSlice t n c =>
    simp only [opV] at h
    cases he : elemOf C.P t with
    | none => rw [he] at h; cases h
    | some el =>
      rw [he] at h
      simp only at h
      cases hz : zeroC C.P el with
      | none => rw [hz] at h; cases h
      | some z =>
        rw [hz] at h
        simp only at h
        split at h
        · rename_i hh
          obtain ⟨y, w', K', h1, h2, h3, h4⟩ := ok_make inv (elem_under he) hz hh.2 hh.1 (E n) (E c) h
          exact ⟨_, w', runs_value h1, K', h2, h3, h4⟩
        · cases h
  case slice t x lo hi mx =>
    simp only [opV] at h
    cases hu : C.P.underlying t with
    | none => rw [hu] at h; cases h
    | some u =>
    rw [hu] at h
    cases u <;> simp only at h <;> try (cases h; done)
    case string =>
      split at h
      · cases h
      · rename_i hm
        obtain ⟨h2, rfl⟩ := lift_eq h
        have hm' : mx = none := by simpa using hm
        subst hm'
        obtain ⟨z, h3, h4⟩ := ok_slS hu (E x) (opt_rel E lo) (opt_rel E hi) h2
        have : (Instr.sliceAt t (ρ x) (lo.map ρ) (hi.map ρ) ((none : Option Operand).map ρ)).run C.P w = .ok z w := by
          simp [Instr.sliceAt, run_underlying hu, h3]
        exact ⟨z, w, runs_value this, leads_same inv h4⟩
    case slice el =>
      split at h
      case isFalse => cases h
      rename_i hh
      obtain ⟨h2, rfl⟩ := lift_eq h
      obtain ⟨z, h3, h4⟩ := ok_slice hu (E x) (opt_rel E lo) (opt_rel E hi) (opt_rel E mx) (by
        have := hh.2
        cases mx <;> cases hi <;> simp at this ⊢) h2 (info_of_cells hh.1)
      have : (Instr.sliceAt t (ρ x) (lo.map ρ) (hi.map ρ) (mx.map ρ)).run C.P w = .ok z w := by
        simp [Instr.sliceAt, run_underlying hu, h3]
      exact ⟨z, w, runs_value this, leads_same inv h4⟩
  case fieldAddr s x f =>
    simp only [opV] at h
    cases hu : C.P.underlying s with
    | none => rw [hu] at h; cases h
    | some u =>
    rw [hu] at h
    cases u <;> simp only at h <;> try (cases h; done)
    rename_i fs
    cases hf : fs[f]? with
    | none => rw [hf] at h; cases h
    | some fd =>
      rw [hf] at h
      simp only at h
      split at h
      · cases h
      · rename_i hz
        obtain ⟨h2, rfl⟩ := lift_eq h
        obtain ⟨a, h3, h4⟩ := ok_padd (E x) h2
        obtain ⟨i, hi⟩ := info_of_cells (C := C) (Nat.pos_of_ne_zero hz)
        refine ⟨_, w, runs_value (s := Instr.fieldAt s (ρ x) f) ?_, leads_same inv h4⟩
        simp [Instr.fieldAt, run_underlying hu, hf, h3, Instr.sureAddr, fieldPlace, run_sizeOf hi, hz]
  case field t x f =>
    simp only [opV] at h
    cases hu : C.P.underlying t with
    | none => rw [hu] at h; cases h
    | some u =>
    rw [hu] at h
    cases u <;> simp only at h <;> try (cases h; done)
    rename_i fs
    cases hf : fs[f]? with
    | none => rw [hf] at h; cases h
    | some fd =>
      rw [hf] at h
      simp only at h
      cases ha : Fv.isAgg C.P fd.type with
      | none => rw [ha] at h; cases h
      | some ag =>
        rw [ha] at h
        obtain ⟨h2, rfl⟩ := lift_eq h
        obtain ⟨z, h3, h4⟩ := ok_field hu hf ha (E x) h2
        exact ⟨z, w, runs_value h3, leads_same inv h4⟩
  case indexAddr t x i =>
    simp only [opV] at h
    cases hu : C.P.underlying t with
    | none => rw [hu] at h; cases h
    | some u =>
    rw [hu] at h
    cases u <;> simp only at h <;> try (cases h; done)
    case slice el =>
      split at h
      case isFalse => cases h
      rename_i h0
      obtain ⟨h2, rfl⟩ := lift_eq h
      obtain ⟨z, h3, h4⟩ := ok_idx hu (E x) (E i) h2 (info_of_cells h0)
      exact ⟨z, w, runs_value h3, leads_same inv h4⟩
    case array n el =>
      split at h
      case isFalse => cases h
      rename_i h0
      obtain ⟨h2, rfl⟩ := lift_eq h
      obtain ⟨z, h3, h4⟩ := ok_aidx hu (E x) (E i) h2 (info_of_cells h0)
      exact ⟨z, w, runs_value h3, leads_same inv h4⟩
  case index t x i =>
    simp only [opV] at h
    cases hu : C.P.underlying t with
    | none => rw [hu] at h; cases h
    | some u =>
    rw [hu] at h
    cases u <;> simp only at h <;> try (cases h; done)
    case string =>
      obtain ⟨h2, rfl⟩ := lift_eq h
      obtain ⟨z, h3, h4⟩ := ok_indexS hu (E x) (E i) h2
      exact ⟨z, w, runs_value h3, leads_same inv h4⟩
    case array n el =>
      cases ha : Fv.isAgg C.P el with
      | none => rw [ha] at h; cases h
      | some ag =>
        rw [ha] at h
        obtain ⟨h2, rfl⟩ := lift_eq h
        obtain ⟨z, h3, h4⟩ := ok_indexA hu ha (E x) (E i) h2
        exact ⟨z, w, runs_value h3, leads_same inv h4⟩
  case extract x i =>
    obtain ⟨h2, rfl⟩ := lift_eq h
    obtain ⟨z, h3, h4⟩ := ok_extract (C := C) (E x) h2
    exact ⟨z, w, runs_value h3, leads_same inv h4⟩
  all_goals cases h

theorem ok_builtin (inv : Inv σ K H w) {b : Builtin} {ats : Array TypeId} {type : TypeId} {consts : Array Bool} {vs : List V} {xs : Array Value} (hl0 : vs.length = xs.size)
    (hr0 : ∀ (i : Nat) a b, vs[i]? = some a → xs[i]? = some b → Rel σ K w a b) (h : builtinV C b ats vs H = some (v, H')) :
    ∃ x w', Runs C.P (builtin b ats type consts xs) w x w' ∧ Leads C σ K H w v H' x w' := by
  obtain ⟨l, rfl⟩ : ∃ l : List Value, xs = l.toArray := ⟨xs.toList, by simp⟩
  have hl : vs.length = l.length := by simpa using hl0
  have hr : ∀ (i : Nat) a b, vs[i]? = some a → l[i]? = some b → Rel σ K w a b := fun i a b ha hb => hr0 i a b ha (by simpa using hb)
  clear hl0 hr0
  have at1 : ∀ {p} {al : List V}, vs = p :: al → ∃ a tl, l = a :: tl ∧ Rel σ K w p a := fun {p al} e => by
    subst e
    match l, hl with
    | a :: tl, _ => exact ⟨a, tl, rfl, hr 0 p a rfl rfl⟩
  unfold builtinV at h
  split at h
  · -- len
    rename_i x
    obtain ⟨a, tl, rfl, hra⟩ := at1 rfl
    have : tl = [] := List.eq_nil_of_length_eq_zero (by simpa using hl.symm)
    subst this
    cases ht : ats[0]? with
    | none => rw [ht] at h; cases h
    | some t =>
    rw [ht] at h
    simp only [Option.bind_some] at h
    cases hu : C.P.underlying t with
    | none => rw [hu] at h; cases h
    | some u =>
    rw [hu] at h
    have red : ∀ {z}, (Builtin.len_ #[t] type #[a]).run C.P w = .ok z w → Runs C.P (builtin .len ats type consts #[a]) w z w := fun {z} hz => by
      have : (Builtin.len_ ats type #[a]).run C.P w = .ok z w := by rw [← hz]; simp [Builtin.len_, ht]
      exact runs_value this
    cases u <;> simp only at h <;> try (cases h; done)
    case string =>
      obtain ⟨h2, rfl⟩ := lift_eq h
      obtain ⟨z, h3, h4⟩ := ok_lenS (ty := type) hu hra h2
      exact ⟨z, w, red h3, leads_same inv h4⟩
    case slice el =>
      obtain ⟨h2, rfl⟩ := lift_eq h
      obtain ⟨z, h3, h4⟩ := ok_len (ty := type) hu hra h2
      exact ⟨z, w, red h3, leads_same inv h4⟩
    case array n el =>
      simp only [M.ret, Option.some.injEq, Prod.mk.injEq] at h
      obtain ⟨rfl, rfl⟩ := h
      exact ⟨goInt n, w, red (by simp [Builtin.len_, run_underlying hu]), leads_same inv (.int _ _)⟩
  · -- append
    rename_i x y
    obtain ⟨a, tl, rfl, hra⟩ := at1 rfl
    match tl, hl with
    | [b], _ =>
    have hrb : Rel σ K w y b := hr 1 y b rfl rfl
    cases ht : ats[0]? with
    | none => rw [ht] at h; cases h
    | some t1 =>
    cases ht2 : ats[1]? with
    | none => rw [ht, ht2] at h; simp only [Option.bind_some, Option.bind_none] at h; cases he : elemOf C.P t1 <;> rw [he] at h <;> cases h
    | some t2 =>
    rw [ht, ht2] at h
    simp only [Option.bind_some] at h
    cases he : elemOf C.P t1 with
    | none => rw [he] at h; cases h
    | some el =>
    cases hu2 : C.P.underlying t2 with
    | none => rw [he, hu2] at h; cases h
    | some d2 =>
    rw [he, hu2] at h
    have fin : (∀ k, d2 ≠ .int k) → (if 0 < C.P.cellsOf el ∧ (zeroC C.P el).map List.length = some (C.P.cellsOf el) ∧ 0 < C.P.bytesOf el then appV (C.P.cellsOf el) (C.P.bytesOf el) x y else M.fail) H = some (v, H') →
        ∃ x w', Runs C.P (builtin .append ats type consts #[a, b]) w x w' ∧ Leads C σ K H w v H' x w' := fun hd2 h => by
      split at h
      case isFalse => cases h
      rename_i hh
      cases hz : zeroC C.P el with
      | none => rw [hz] at hh; simp at hh
      | some z =>
        have hzl : z.length = C.P.cellsOf el := by have := hh.2.1; rw [hz] at this; simpa using this
        obtain ⟨c, w', K', h1, h2, h3, h4⟩ := ok_append (ty := type) inv ht ht2 (elem_under he) hu2 hd2 hz hzl hh.2.2 hra hrb h
        exact ⟨c, w', runs_value h1, K', h2, h3, h4⟩
    cases d2 <;> simp only at h <;> try (cases h; done)
    case string => exact fin (fun k e => by cases e) h
    case slice el2 => exact fin (fun k e => by cases e) h
  · -- copy
    rename_i x y
    obtain ⟨a, tl, rfl, hra⟩ := at1 rfl
    match tl, hl with
    | [b], _ =>
    have hrb : Rel σ K w y b := hr 1 y b rfl rfl
    cases ht : ats[0]? with
    | none => rw [ht] at h; cases h
    | some t1 =>
    rw [ht] at h
    simp only [Option.bind_some] at h
    cases he : elemOf C.P t1 with
    | none => rw [he] at h; cases h
    | some el =>
    rw [he] at h
    simp only at h
    split at h
    case isFalse => cases h
    rename_i h0
    obtain ⟨i, hi⟩ := info_of_cells h0
    obtain ⟨c, w', K', h1, h2, h3, h4⟩ := ok_copy (ty := type) inv ht (elem_under he) hi hra hrb h
    exact ⟨c, w', runs_value h1, K', h2, h3, h4⟩
  · -- clear
    rename_i x
    obtain ⟨a, tl, rfl, hra⟩ := at1 rfl
    have : tl = [] := List.eq_nil_of_length_eq_zero (by simpa using hl.symm)
    subst this
    cases ht : ats[0]? with
    | none => rw [ht] at h; cases h
    | some t1 =>
    rw [ht] at h
    simp only [Option.bind_some] at h
    cases he : elemOf C.P t1 with
    | none => rw [he] at h; cases h
    | some el =>
    rw [he] at h
    simp only at h
    cases hz : zeroC C.P el with
    | none => rw [hz] at h; cases h
    | some z =>
    rw [hz] at h
    simp only at h
    split at h
    case isFalse => cases h
    rename_i hh
    obtain ⟨c, w', K', h1, h2, h3, h4⟩ := ok_clear (ty := type) inv ht (elem_under he) hz hh.2 hh.1 hra h
    exact ⟨c, w', runs_value h1, K', h2, h3, h4⟩
  · -- max
    rename_i x y
    obtain ⟨a, tl, rfl, hra⟩ := at1 rfl
    match tl, hl with
    | [b], _ =>
    have hrb : Rel σ K w y b := hr 1 y b rfl rfl
    obtain ⟨h2, rfl⟩ := lift_eq h
    unfold maxV at h2
    split at h2
    · cases hra; cases hrb; cases h2
      exact ⟨_, w, runs_value rfl, leads_same inv (.int _ _)⟩
    · cases h2
  · -- min
    rename_i x y
    obtain ⟨a, tl, rfl, hra⟩ := at1 rfl
    match tl, hl with
    | [b], _ =>
    have hrb : Rel σ K w y b := hr 1 y b rfl rfl
    obtain ⟨h2, rfl⟩ := lift_eq h
    unfold minV at h2
    split at h2
    · cases hra; cases hrb; cases h2
      exact ⟨_, w, runs_value rfl, leads_same inv (.int _ _)⟩
    · cases h2
  · cases h
end
end Go.Fv

/-! Calls: what a callee sees, and what it hands back. -/
namespace Go.Fv
open Go

section
variable {C : Cfg} {σ : Nat → Addr} {K : Ctx} {H H' : Heap} {w : World} {v : V}

theorem mapM_get {α β : Type} {f : α → Option β} : ∀ {l : List α} {l' : List β}, l.mapM f = some l' → l.length = l'.length ∧ ∀ (i : Nat) a, l[i]? = some a → ∃ b, l'[i]? = some b ∧ f a = some b
  | [], l', h => by simp at h; subst h; exact ⟨rfl, fun i a h => by simp at h⟩
  | x :: l, l', h => by
    rw [List.mapM_cons] at h
    cases hx : f x with
    | none => rw [hx] at h; cases h
    | some y =>
      rw [hx] at h
      cases hl : l.mapM f with
      | none => rw [hl] at h; cases h
      | some ys =>
        rw [hl] at h
        have h : some (y :: ys) = some l' := h
        injection h with h
        subst h
        obtain ⟨h1, h2⟩ := mapM_get hl
        refine ⟨by simp [h1], fun i a ha => ?_⟩
        cases i with
        | zero => simp at ha; subst ha; exact ⟨y, rfl, hx⟩
        | succ i => simp at ha; obtain ⟨b, h3, h4⟩ := h2 i a ha; exact ⟨b, by simpa using h3, h4⟩

theorem Rel.flat {K2 : Ctx} {x : Value} (h : Rel σ K w v x) (hv : v.flat = true) : Rel σ K2 w v x := by
  cases h with
  | iface t u y hc hu =>
    cases hu <;> simp [V.flat] at hv
    exact .iface t _ _ hc (.ext _)
  | bool b => exact .bool b
  | int k n => exact .int k n
  | str s => exact .str s
  | nilp => exact .nilp
  | ext k => exact .ext k
  | nils => exact .nils
  | emp a => exact .emp a
  | nili => exact .nili
  | nilf => exact .nilf
  | _ => simp [V.flat] at hv

theorem flatRows_mem {rows : List (List V)} (h : flatRows rows = true) : ∀ r ∈ rows, ∀ c ∈ r, c.flat = true := fun r hr c hc => by
  unfold flatRows at h
  rw [List.all_eq_true] at h
  exact List.all_eq_true.1 (h r hr) c hc

/-- A slice of the small heap, seen as a plain list. -/
theorem ref_imm (inv : Inv σ K H w) {l sz s n c : Nat} {ex : Bool} {x : Value} (h : Rel σ K w (.ref l sz s n c ex) x) {B : Blk} (hB : H.blk l = some B) (hle : s + n ≤ B.rows.length)
    (hfl : flatRows ((B.rows.drop s).take n) = true) {K2 : Ctx} (hI : K2.I (K.ρ l).1) : Rel σ K2 w (.imm sz ((B.rows.drop s).take n)) x := by
  cases h with
  | ref _ _ _ _ _ _ a cap b off hl hρ hn hc hex ha =>
    have hlen : ((B.rows.drop s).take n).length = n := by rw [List.length_take, List.length_drop]; omega
    by_cases h0 : n = 0
    · subst h0
      rw [List.take_zero]
      exact .imm0 _ _ _
    · obtain ⟨rfl, _⟩ := ha (by omega)
      have hBB := inv.blk l B hB
      obtain ⟨cs, e, g1, g2, g3⟩ := hBB.at_
      have hz := hBB.sz
      rw [hρ] at g1 g2 g3 hz hI
      simp only at g1 g2 g3 hz hI
      subst hz
      have get : ∀ (i : Nat) r, ((B.rows.drop s).take n)[i]? = some r → B.rows[s + i]? = some r := fun i r hi => by
        rw [List.getElem?_take] at hi
        split at hi
        · rwa [List.getElem?_drop] at hi
        · cases hi
      have hk := Rel.imm (σ := σ) (K := K2) (w := w) B.sz ((B.rows.drop s).take n) b (off + s * B.sz) cap (fun i j => (w.cell? ⟨b, off + s * B.sz + i * B.sz + j, none⟩).getD Go.undef) hI (by rw [hlen]; omega)
        (fun r hr => hBB.rows r (List.mem_of_mem_drop (List.mem_of_mem_take hr))) (fun r hr c hc => V.closed_of_flat (flatRows_mem hfl r hr c hc))
        (fun i r j c hi hj => by
          obtain ⟨_, y, q1, _⟩ := g3 (s + i) r j c (get i r hi) hj
          rw [Nat.add_mul, ← Nat.add_assoc] at q1
          rw [g1.cell, q1]
          rfl)
        (fun i r j c hi hj => by
          obtain ⟨_, y, q1, q2⟩ := g3 (s + i) r j c (get i r hi) hj
          rw [Nat.add_mul, ← Nat.add_assoc] at q1
          rw [g1.cell, q1]
          exact q2.flat (flatRows_mem hfl r (List.mem_of_getElem? hi) c (List.mem_of_getElem? hj)))
      rwa [hlen] at hk

theorem ptr_iptr (inv : Inv σ K H w) {l i o : Nat} {x : Value} (h : Rel σ K w (.ptr l i o) x) {B : Blk} (hB : H.blk l = some B) {r : List V} (hr : B.rows[i]? = some r)
    (hfl : r.all V.flat = true) {K2 : Ctx} (hI : K2.I (K.ρ l).1) : Rel σ K2 w (.iptr r o) x := by
  cases h with
  | ptr _ _ _ b off sz hl hρ =>
    have hBB := inv.blk l B hB
    obtain ⟨cs, e, g1, g2, g3⟩ := hBB.at_
    have hz := hBB.sz
    rw [hρ] at g1 g2 g3 hz hI
    simp only at g1 g2 g3 hz hI
    subst hz
    rw [List.all_eq_true] at hfl
    exact .iptr r o b (off + i * B.sz) (fun j => (w.cell? ⟨b, off + i * B.sz + j, none⟩).getD Go.undef) hI (fun c hc => V.closed_of_flat (hfl c hc))
      (fun j c hj => by obtain ⟨_, y, q1, _⟩ := g3 i r j c hr hj; rw [g1.cell, q1]; rfl)
      (fun j c hj => by
        obtain ⟨_, y, q1, q2⟩ := g3 i r j c hr hj
        rw [g1.cell, q1]
        exact q2.flat (hfl c (List.mem_of_getElem? hj)))

theorem thaw_rel (inv : Inv σ K H w) {ok : Bool} {u : V} {x : Value} (hr : Rel σ K w v x) (h : thaw ok H v = some u) (K2 : Ctx) (h1 : ∀ l B, H.blk l = some B → K2.I (K.ρ l).1)
    (h2 : ok = true → ∀ b, K.I b → K2.I b) : Rel σ K2 w u x ∧ u.closed = true := by
  have rest : (if v.flat || (ok && v.closed) then some v else none) = some u → Rel σ K2 w u x ∧ u.closed = true := fun h => by
    split at h
    · rename_i hh
      injection h with h
      subst h
      cases hf : v.flat with
      | true => exact ⟨hr.flat hf, V.closed_of_flat hf⟩
      | false =>
        rw [hf] at hh
        simp only [Bool.false_or, Bool.and_eq_true] at hh
        exact ⟨hr.closed hh.2 (h2 hh.1), hh.2⟩
    · cases h
  unfold thaw at h
  split at h
  · rename_i l z s n c ex
    cases hB : H.blk l with
    | none => rw [hB] at h; simp at h
    | some B =>
      rw [hB] at h
      simp only [Option.bind_some] at h
      split at h
      · rename_i hh
        injection h with h
        subst h
        exact ⟨ref_imm inv hr hB hh.1 hh.2 (h1 l B hB), rfl⟩
      · cases h
  · rename_i l i o
    cases hB : H.blk l with
    | none => rw [hB] at h; simp at h
    | some B =>
      rw [hB] at h
      simp only [Option.bind_some] at h
      cases hrow : B.rows[i]? with
      | none => rw [hrow] at h; simp at h
      | some r =>
        rw [hrow] at h
        simp only [Option.bind_some] at h
        split at h
        · rename_i hh
          injection h with h
          subst h
          exact ⟨ptr_iptr inv hr hB hrow hh (h1 l B hB), rfl⟩
        · cases h
  · rename_i t l i o
    cases hB : H.blk l with
    | none => rw [hB] at h; simp at h
    | some B =>
      rw [hB] at h
      simp only [Option.bind_some] at h
      cases hrow : B.rows[i]? with
      | none => rw [hrow] at h; simp at h
      | some r =>
        rw [hrow] at h
        simp only [Option.bind_some] at h
        split at h
        · rename_i hh
          injection h with h
          subst h
          cases hr with
          | iface _ _ y hc hy => exact ⟨.iface t _ y rfl (ptr_iptr inv hy hB hrow hh (h1 l B hB)), rfl⟩
        · cases h
  · exact rest h

theorem thaw2_rel (inv : Inv σ K H w) {ok : Bool} {u : V} {x : Value} (hr : Rel σ K w v x) (h : thaw2 ok H v = some u) (K2 : Ctx) (h1 : ∀ l B, H.blk l = some B → K2.I (K.ρ l).1)
    (h2 : ok = true → ∀ b, K.I b → K2.I b) : Rel σ K2 w u x := by
  unfold thaw2 at h
  split at h
  · rename_i l
    cases hm : l.mapM (thaw ok H) with
    | none => rw [hm] at h; simp at h
    | some l' =>
      rw [hm] at h
      simp only [Option.bind_some, Option.some.injEq] at h
      subst h
      obtain ⟨m1, m2⟩ := mapM_get hm
      cases hr with
      | agg _ cs hl hc hrl =>
        have get : ∀ (i : Nat) b, l'[i]? = some b → ∃ a, l[i]? = some a ∧ thaw ok H a = some b := fun i b hb => by
          have hlt : i < l.length := by rw [m1]; exact (List.getElem?_eq_some_iff.1 hb).1
          obtain ⟨b', q1, q2⟩ := m2 i _ (List.getElem?_eq_getElem hlt)
          rw [hb] at q1
          injection q1 with q1
          subst q1
          exact ⟨_, List.getElem?_eq_getElem hlt, q2⟩
        refine .agg l' cs (by rw [← m1]; exact hl) (fun b hb => ?_) (fun i b y hb hy => ?_)
        · obtain ⟨i, hi⟩ := List.getElem?_of_mem hb
          obtain ⟨a, q1, q2⟩ := get i b hi
          have hlt : i < cs.size := by rw [← hl]; exact (List.getElem?_eq_some_iff.1 q1).1
          exact V.cell_of_closed (thaw_rel inv (hrl i a cs[i] q1 (by simp [hlt])) q2 K2 h1 h2).2
        · obtain ⟨a, q1, q2⟩ := get i b hb
          exact (thaw_rel inv (hrl i a y q1 hy) q2 K2 h1 h2).1
  · exact (thaw_rel inv hr h K2 h1 h2).1

theorem thawV_rel (inv : Inv σ K H w) {ok : Bool} {u : V} {x : Value} (hr : Rel σ K w v x) (h : thawV ok H v = some u) (K2 : Ctx) (h1 : ∀ l B, H.blk l = some B → K2.I (K.ρ l).1)
    (h2 : ok = true → ∀ b, K.I b → K2.I b) : Rel σ K2 w u x := by
  unfold thawV at h
  split at h
  · rename_i l
    exact thaw2_rel (v := .agg l) inv hr (by simpa [thaw2] using h) K2 h1 h2
  · rename_i l
    cases hm : l.mapM (thaw2 ok H) with
    | none => rw [hm] at h; simp at h
    | some l' =>
      rw [hm] at h
      simp only [Option.bind_some, Option.some.injEq] at h
      subst h
      obtain ⟨m1, m2⟩ := mapM_get hm
      cases hr with
      | tuple _ cs hl hrl =>
        refine .tuple l' cs (by rw [← m1]; exact hl) (fun i b y hb hy => ?_)
        have hlt : i < l.length := by rw [m1]; exact (List.getElem?_eq_some_iff.1 hb).1
        obtain ⟨b', q1, q2⟩ := m2 i _ (List.getElem?_eq_getElem hlt)
        rw [hb] at q1
        injection q1 with q1
        subst q1
        exact thaw2_rel inv (hrl i _ y (List.getElem?_eq_getElem hlt) hy) q2 K2 h1 h2
  · exact (thaw_rel inv hr h K2 h1 h2).1

/-- A value that holds no place of the heap is seen as it is. -/
theorem thaw_closed {v : V} (h : v.closed = true) (H : Heap) : thaw true H v = some v := by
  cases v with
  | iface t u => cases u <;> simp_all [thaw, V.closed, V.flat]
  | _ => simp_all [thaw, V.closed, V.flat]
theorem mapM_closed : ∀ {l : List V}, l.all V.closed = true → ∀ H, l.mapM (thaw true H) = some l
  | [], _, _ => rfl
  | v :: l, h, H => by
    simp only [List.all_cons, Bool.and_eq_true] at h
    rw [List.mapM_cons, thaw_closed h.1 H, mapM_closed h.2 H]
    rfl
theorem V.closed_of_closedV {v : V} (h : v.closedV = true) (hna : ∀ l, v ≠ .agg l) : v.closed = true := by
  cases v <;> first | exact absurd rfl (hna _) | simpa only [V.closedV] using h
theorem thawV_closed {v : V} (h : v.closedV = true) (H : Heap) : thawV true H v = some v := by
  cases v with
  | agg l =>
    simp only [V.closedV] at h
    simp [thawV, mapM_closed h H]
  | tuple l => simp [V.closedV, V.closed, V.flat] at h
  | _ => exact thaw_closed (V.closed_of_closedV h (by intro l; simp)) H
theorem mapM_closedV : ∀ {l : List V}, l.all V.closedV = true → ∀ H, l.mapM (thawV true H) = some l
  | [], _, _ => rfl
  | v :: l, h, H => by
    simp only [List.all_cons, Bool.and_eq_true] at h
    rw [List.mapM_cons, thawV_closed h.1 H, mapM_closedV h.2 H]
    rfl
theorem Rel.closedV {K2 : Ctx} {x : Value} (h : Rel σ K w v x) (hv : v.closedV = true) (hI : ∀ b, K.I b → K2.I b) : Rel σ K2 w v x := by
  by_cases ha : ∃ l, v = .agg l
  · obtain ⟨l, rfl⟩ := ha
    cases h with
    | agg l cs hl hc hr =>
      simp only [V.closedV] at hv
      rw [List.all_eq_true] at hv
      exact .agg l cs hl hc (fun i a b ha hb => (hr i a b ha hb).closed (hv a (List.mem_of_getElem? ha)) hI)
  · exact h.closed (V.closed_of_closedV hv (fun l e => ha ⟨l, e⟩)) hI

def ArgsRel (σ : Nat → Addr) (K : Ctx) (w : World) (vs : List V) (xs : Array Value) : Prop := vs.length = xs.size ∧ ∀ (i : Nat) a b, vs[i]? = some a → xs[i]? = some b → Rel σ K w a b

def Callable (P : Program) (f : FuncId) : Prop := ∃ fn, P.funcs[f]? = some fn ∧ fn.body.isSome = true ∧ fn.name ≠ "runtime.NumGoroutine"

/-- The plain call stands for the Go call. -/
def SoundF (C : Cfg) (σ : Nat → Addr) (f : FuncId) (cf : List V → M V) : Prop :=
  ∀ K H w vs xs v H', Inv σ K H w → GlobOk C σ K w → ArgsRel σ K w vs xs → cf vs H = some (v, H') →
    Callable C.P f ∧ Calls C.P f xs w fun e w' => ∃ x, e = .returned x ∧ Leads C σ K H w v H' x w'

theorem GlobOk.sub {K2 : Ctx} (h : GlobOk C σ K w) (hI : ∀ b, K.I b → K2.I b) : GlobOk C σ K2 w := ⟨fun g row hg => (h.g g row hg).closed rfl hI, fun k hk => ⟨hI _ (h.s k hk).1, (h.s k hk).2⟩, fun g v hg => ⟨hI _ (h.z g v hg).1, (h.z g v hg).2⟩, fun g cs hg => ⟨hI _ (h.t g cs hg).1, (h.t g cs hg).2⟩⟩

theorem ok_callP {f : FuncId} {cf : List V → M V} (hf : SoundF C σ f cf) : SoundF C σ f (callP false cf) := by
  intro K H w vs xs v H' inv gl ar h
  unfold callP at h
  cases hm : vs.mapM (thawV true H) with
  | none => rw [hm] at h; simp at h
  | some as =>
  rw [hm] at h
  simp only [Option.bind_some] at h
  cases hr : cf as Heap.empty with
  | none => rw [hr] at h; simp at h
  | some rh =>
  obtain ⟨r, Hc⟩ := rh
  rw [hr] at h
  simp only [Option.bind_some, Bool.false_eq_true, if_false] at h
  cases ht : thawV (vs.all V.closedV) Hc r with
  | none => rw [ht] at h; simp at h
  | some u =>
  rw [ht] at h
  simp only [Option.bind_some, Option.some.injEq, Prod.mk.injEq] at h
  obtain ⟨rfl, rfl⟩ := h
  -- what the callee may take for unwritten
  have hc : ∃ I0 : Nat → Prop, (∀ b, K.I b → I0 b) ∧ (∀ b, I0 b → b < w.heap.size) ∧ (vs.all V.closedV = true → ∀ b, I0 b → K.I b) ∧ ArgsRel σ ⟨I0, fun _ => (0, 0, 0), 0, fun _ => False⟩ w as xs := by
    cases hcl : vs.all V.closedV with
    | true =>
      refine ⟨K.I, fun _ h => h, inv.imm, fun _ _ h => h, ?_⟩
      rw [mapM_closedV hcl H] at hm
      injection hm with hm
      subst hm
      rw [List.all_eq_true] at hcl
      exact ⟨ar.1, fun i a b ha hb => (ar.2 i a b ha hb).closedV (hcl a (List.mem_of_getElem? ha)) (fun _ h => h)⟩
    | false =>
      refine ⟨fun b => b < w.heap.size, inv.imm, fun _ h => h, fun h => (by cases h), ?_⟩
      obtain ⟨m1, m2⟩ := mapM_get hm
      refine ⟨m1.symm.trans ar.1, fun i a b ha hb => ?_⟩
      have hlt : i < vs.length := by rw [m1]; exact (List.getElem?_eq_some_iff.1 ha).1
      obtain ⟨b', q1, q2⟩ := m2 i _ (List.getElem?_eq_getElem hlt)
      rw [ha] at q1
      injection q1 with q1
      subst q1
      refine thawV_rel inv (ar.2 i _ b (List.getElem?_eq_getElem hlt) hb) q2 _ (fun l B hB => ?_) (fun _ => inv.imm)
      obtain ⟨cs, e, g1, _⟩ := (inv.blk l B hB).at_
      exact g1.lt
  obtain ⟨I0, c1, c2, c3, c4⟩ := hc
  have inv0 : Inv σ ⟨I0, fun _ => (0, 0, 0), 0, fun _ => False⟩ Heap.empty w := ⟨rfl, fun _ h => h.elim, Nat.le_refl _, fun l B h => (by simp [Heap.empty] at h), fun l l' B B' h => (by simp [Heap.empty] at h), c2⟩
  refine ⟨(hf _ _ w as xs r Hc inv0 (gl.sub c1) c4 hr).1, (hf _ _ w as xs r Hc inv0 (gl.sub c1) c4 hr).2.mono fun e w' he => ?_⟩
  obtain ⟨x, rfl, Kc, r1, r2, r3⟩ := he
  have fr : ∀ b, b < w.heap.size → w'.heap[b]? = w.heap[b]? := fun b hb => r3.frame b hb (fun l B h => (by simp [Heap.empty] at h))
  have fresh : ∀ l B, Hc.blk l = some B → w.heap.size ≤ (Kc.ρ l).1 ∧ (Kc.ρ l).1 < w'.heap.size := fun l B hB => by
    refine ⟨?_, ?_⟩
    · rcases Nat.lt_or_ge (Kc.ρ l).1 w.heap.size with g | g
      · obtain ⟨l0, B0, h0, _⟩ := r3.range l B hB g
        simp [Heap.empty] at h0
      · exact g
    · obtain ⟨cs, e, g1, _⟩ := (r2.blk l B hB).at_
      exact g1.lt
  let K' : Ctx := ⟨fun b => K.I b ∨ (w.heap.size ≤ b ∧ b < w'.heap.size), K.ρ, K.nx, K.D⟩
  have evo : Evo K H w K' H w' := {
    I := fun _ h => .inl h
    ρ := fun _ _ => rfl
    D := fun _ h => h
    nx := Nat.le_refl _
    floor := rfl
    low := fun _ _ _ => rfl
    frame := fun b hb _ => fr b hb
    shape := fun b cs e f h => ⟨cs, f, (fr b (Array.getElem?_eq_some_iff.1 h).1).trans h, rfl⟩
    size := r3.size
    os := r3.os
    tape := r3.tape
    output := r3.output
    range := fun l B h _ => ⟨l, B, h, rfl, .inl rfl⟩
    newI := fun b h hb => by
      rcases h with h | h
      · exact h
      · omega
    newD := fun _ h _ => h }
  have mv := inv.moves evo
  have inv' : Inv σ K' H w' := by
    refine ⟨inv.nx, inv.dom, inv.flo, fun l B hB => ?_, inv.inj, fun b hb => ?_⟩
    · have h0 := inv.blk l B hB
      obtain ⟨cs, e, g1, g2, g3⟩ := h0.at_
      have hlt : (K.ρ l).1 < w.heap.size := g1.lt
      refine ⟨h0.lt, h0.sz, fun hI => ?_, h0.rows, cs, e, g1.same (fr _ hlt), g2, fun i rr j c hi hj => ?_⟩
      · rcases hI with hI | hI
        · exact h0.own hI
        · have : (K'.ρ l).1 < w.heap.size := hlt
          omega
      · obtain ⟨q1, y, q2, q3⟩ := g3 i rr j c hi hj
        exact ⟨q1, y, q2, q3.mono mv⟩
    · rcases hb with hb | hb
      · exact Nat.lt_of_lt_of_le (inv.imm b hb) r3.size
      · exact hb.2
  refine ⟨x, rfl, K', ?_, inv', evo⟩
  refine thawV_rel r2 r1 ht K' (fun l B hB => .inr (fresh l B hB)) (fun hok b hb => ?_)
  rcases Nat.lt_or_ge b w.heap.size with g | g
  · exact .inl (c3 hok b (r3.newI b hb g))
  · exact .inr ⟨g, r2.imm b hb⟩

/-- A row of the callee's becomes one of the caller's. -/
theorem Inv.adopt {K0 : Ctx} {H0 : Heap} {w0 : World} (inv : Inv σ K H w) (evo0 : Evo K0 H0 w0 K H w) {blk off sz : Nat} {rows : List (List V)} {cs : Array Value} {e : TypeId}
    (hs : ∀ r ∈ rows, r.length = sz) (hblk : Lies w blk cs e) (hroom : off + rows.length * sz ≤ cs.size)
    (hc : ∀ (i : Nat) r (j : Nat) c, rows[i]? = some r → r[j]? = some c → c.isCell = true ∧ ∃ x, cs[off + i * sz + j]? = some x ∧ ∀ K2, Rel σ K2 w c x)
    (hfresh : w0.heap.size ≤ blk) (hI : ¬ K.I blk) (hne : ∀ l B, H.blk l = some B → (K.ρ l).1 ≠ blk) (hnx0 : K0.nx ≤ K.nx) (hfl : H0.floor ≤ K.nx) :
    ∃ K', Inv σ K' (H.add ⟨sz, rows⟩) w ∧ Evo K0 H0 w0 K' (H.add ⟨sz, rows⟩) w ∧ K'.nx = K.nx + 1 ∧ K'.ρ K.nx = (blk, off, sz) ∧ (∀ l, K.D l → K'.ρ l = K.ρ l) ∧ K'.I = K.I ∧ Moves K K' w w ∧ K'.D K.nx := by
  let K' : Ctx := ⟨K.I, fun l => if l = K.nx then (blk, off, sz) else K.ρ l, K.nx + 1, fun l => K.D l ∨ l = K.nx⟩
  have ρo : ∀ l, l ≠ H.next → K'.ρ l = K.ρ l := fun l e => by show (if l = K.nx then _ else _) = _; rw [if_neg (by rw [inv.nx]; exact e)]
  have ρn : K'.ρ H.next = (blk, off, sz) := by show (if H.next = K.nx then _ else _) = _; rw [if_pos inv.nx.symm]
  have old : ∀ l B, (H.add ⟨sz, rows⟩).blk l = some B → l ≠ H.next → H.blk l = some B := fun l B hB e => by
    have : (if l = H.next then _ else _) = some B := hB; rwa [if_neg e] at this
  have new : ∀ B, (H.add ⟨sz, rows⟩).blk H.next = some B → B = ⟨sz, rows⟩ := fun B hB => by
    have : (if H.next = H.next then _ else _) = some B := hB; rw [if_pos rfl] at this; injection this with this; exact this.symm
  have mv : Moves K K' w w := ⟨fun _ h => h, fun l hl => ρo l (by have := inv.dom l hl; rw [inv.nx] at this; omega), fun _ h => .inl h, fun _ _ => rfl, fun b cs e f h => ⟨cs, f, h, rfl⟩⟩
  refine ⟨K', ⟨by show K.nx + 1 = H.next + 1; rw [inv.nx], fun l h => by show l < K.nx + 1; rcases h with h | h; (have := inv.dom l h; omega); omega, Nat.le_succ_of_le inv.flo, ?_, ?_, inv.imm⟩, ?_, rfl, by rw [inv.nx]; exact ρn, fun l hl => ρo l (by have := inv.dom l hl; rw [inv.nx] at this; omega), rfl, mv, .inr rfl⟩
  · intro l B hB
    by_cases e' : l = H.next
    · subst e'
      have := new B hB
      subst this
      refine ⟨.inr inv.nx.symm, by rw [ρn], by rw [ρn]; exact hI, hs, cs, e, by rw [ρn]; exact hblk, by rw [ρn]; exact hroom, ?_⟩
      intro i r j c hi hj
      obtain ⟨q1, y, q2, q3⟩ := hc i r j c hi hj
      exact ⟨q1, y, by rw [ρn]; exact q2, q3 K'⟩
    · have hB' := old l B hB e'
      have h0 := inv.blk l B hB'
      obtain ⟨cs0, e0, g1, g2, g3⟩ := h0.at_
      refine ⟨.inl h0.lt, by rw [ρo l e']; exact h0.sz, by rw [ρo l e']; exact h0.own, h0.rows, cs0, e0, by rw [ρo l e']; exact g1, by rw [ρo l e']; exact g2, ?_⟩
      intro i r j c hi hj
      obtain ⟨q1, y, q2, q3⟩ := g3 i r j c hi hj
      exact ⟨q1, y, by rw [ρo l e']; exact q2, q3.mono mv⟩
  · intro l l' B B' hB hB' he
    by_cases e1 : l = H.next <;> by_cases e2 : l' = H.next
    · rw [e1, e2]
    · subst e1
      rw [ρn, ρo l' e2] at he
      exact absurd he.symm (hne l' B' (old l' B' hB' e2))
    · subst e2
      rw [ρn, ρo l e1] at he
      exact absurd he (hne l B (old l B hB e1))
    · rw [ρo l e1, ρo l' e2] at he
      exact inv.inj _ _ _ _ (old l B hB e1) (old l' B' hB' e2) he
  · have hnx := inv.nx
    exact {
      I := evo0.I
      ρ := fun l hl => (ρo l (by have := inv.dom l (evo0.D l hl); omega)).trans (evo0.ρ l hl)
      D := fun l h => .inl (evo0.D l h)
      nx := Nat.le_trans evo0.nx (Nat.le_succ _)
      floor := evo0.floor
      low := fun l h1 h2 => by
        show (if l = H.next then _ else H.blk l) = _
        rw [if_neg (by omega)]
        exact evo0.low l h1 h2
      frame := evo0.frame
      shape := evo0.shape
      size := evo0.size
      os := evo0.os
      tape := evo0.tape
      output := evo0.output
      range := fun l B hB hlt => by
        by_cases e' : l = H.next
        · subst e'
          rw [ρn] at hlt
          simp only at hlt
          omega
        · rw [ρo l e'] at hlt ⊢
          exact evo0.range l B (old l B hB e') hlt
      newI := evo0.newI
      newD := fun l h hlt => evo0.newD l (h.resolve_right (by omega)) hlt }
end
end Go.Fv

/-! Calls that hand back memory of their own. -/
namespace Go.Fv
open Go

section
variable {C : Cfg} {σ : Nat → Addr} {Kc : Ctx} {Hc : Heap} {w0 w' : World} {K0 : Ctx} {H0 : Heap}

/-- In the midst of taking over. -/
structure Mid (σ : Nat → Addr) (Kc : Ctx) (Hc : Heap) (w0 w' : World) (K0 : Ctx) (H0 : Heap) (ls : List Nat) (K : Ctx) (H : Heap) : Prop where
  inv : Inv σ K H w'
  evo : Evo K0 H0 w0 K H w'
  seen : ∀ l B, H.blk l = some B → (K.ρ l).1 < w0.heap.size ∨ ∃ lc ∈ ls, (∃ B', Hc.blk lc = some B') ∧ (Kc.ρ lc).1 = (K.ρ l).1
  I : K.I = K0.I

def Hands (σ : Nat → Addr) (Kc : Ctx) (Hc : Heap) (w0 w' : World) (K0 : Ctx) (H0 : Heap) (g : V → List Nat → Option (V × List Nat)) (t : V → M V) : Prop :=
  ∀ r ls r' ls' x K H u H', Rel σ Kc w' r x → g r ls = some (r', ls') → t r' H = some (u, H') → Mid σ Kc Hc w0 w' K0 H0 ls K H →
    ∃ K', Rel σ K' w' u x ∧ Mid σ Kc Hc w0 w' K0 H0 ls' K' H' ∧ Moves K K' w' w' ∧ (r.isCell = true → u.isCell = true)

theorem bind_eq {α β : Type} {m : M α} {f : α → M β} {H H' : Heap} {b : β} (h : M.bind m f H = some (b, H')) : ∃ a H1, m H = some (a, H1) ∧ f a H1 = some (b, H') := by
  unfold M.bind at h
  cases hm : m H with
  | none => rw [hm] at h; cases h
  | some x => rw [hm] at h; exact ⟨x.1, x.2, rfl, h⟩

theorem hands_give (ic : Inv σ Kc Hc w') (hfresh : ∀ l B, Hc.blk l = some B → w0.heap.size ≤ (Kc.ρ l).1) (i0 : ∀ b, K0.I b → b < w0.heap.size) (hfl : H0.floor ≤ H0.next) (hnx : K0.nx = H0.next) :
    Hands σ Kc Hc w0 w' K0 H0 (give Hc) take1 := by
  intro r ls r' ls' x K H u H' hr hg ht mid
  have flatCase : (if r.flat then some (r, ls) else none) = some (r', ls') → (∀ z rows, r ≠ .own z rows) →
      ∃ K', Rel σ K' w' u x ∧ Mid σ Kc Hc w0 w' K0 H0 ls' K' H' ∧ Moves K K' w' w' ∧ (r.isCell = true → u.isCell = true) := fun hg hno => by
    split at hg
    · rename_i hf
      simp only [Option.some.injEq, Prod.mk.injEq] at hg
      obtain ⟨rfl, rfl⟩ := hg
      have htt : take1 r H = some (r, H) := by cases r <;> first | rfl | exact absurd rfl (hno _ _)
      rw [htt] at ht
      simp only [Option.some.injEq, Prod.mk.injEq] at ht
      obtain ⟨rfl, rfl⟩ := ht
      exact ⟨K, hr.flat hf, mid, ⟨fun _ h => h, fun _ _ => rfl, fun _ h => h, fun _ _ => rfl, fun b cs e f h => ⟨cs, f, h, rfl⟩⟩, fun h => h⟩
    · cases hg
  cases hr with
  | ref l sz s n c ex a cap b off hl hρ hn hc hex ha =>
    simp only [give] at hg
    cases hB : Hc.blk l with
    | none => rw [hB] at hg; simp at hg
    | some B =>
      rw [hB] at hg
      simp only [Option.bind_some] at hg
      split at hg
      · rename_i hh
        obtain ⟨h1, h2, h3⟩ := hh
        simp only [Option.some.injEq, Prod.mk.injEq] at hg
        obtain ⟨rfl, rfl⟩ := hg
        simp only [take1, newRows, Option.some.injEq, Prod.mk.injEq] at ht
        obtain ⟨rfl, rfl⟩ := ht
        have hBB := ic.blk l B hB
        obtain ⟨cs, e, g1, g2, g3⟩ := hBB.at_
        have hz := hBB.sz
        have hfr := hfresh l B hB
        rw [hρ] at g1 g2 g3 hz hfr
        simp only at g1 g2 g3 hz hfr
        subst hz
        have hlen : ((B.rows.drop s).take n).length = n := by rw [List.length_take, List.length_drop]; omega
        have get : ∀ (i : Nat) r, ((B.rows.drop s).take n)[i]? = some r → B.rows[s + i]? = some r := fun i r hi => by
          rw [List.getElem?_take] at hi
          split at hi
          · rwa [List.getElem?_drop] at hi
          · cases hi
        have hmul : (s + n) * B.sz ≤ B.rows.length * B.sz := Nat.mul_le_mul_right _ h1
        rw [Nat.add_mul] at hmul
        obtain ⟨K', j1, j2, j3, j4, j5, j6, j7, j8⟩ := mid.inv.adopt mid.evo (blk := b) (off := off + s * B.sz) (sz := B.sz) (rows := (B.rows.drop s).take n) (cs := cs) (e := e)
          (fun r hr => hBB.rows r (List.mem_of_mem_drop (List.mem_of_mem_take hr))) g1 (by rw [hlen]; omega)
          (fun i r j cc hi hj => by
            obtain ⟨q1, y, q2, q3⟩ := g3 (s + i) r j cc (get i r hi) hj
            rw [Nat.add_mul, ← Nat.add_assoc] at q2
            exact ⟨q1, y, q2, fun K2 => q3.flat (flatRows_mem h2 r (List.mem_of_getElem? hi) cc (List.mem_of_getElem? hj))⟩)
          hfr (by rw [mid.I]; exact fun h => by have := i0 b h; omega)
          (fun l' B' hB' he => by
            rcases mid.seen l' B' hB' with g | ⟨lc, q1, ⟨B2, q2⟩, q3⟩
            · omega
            · have : lc = l := ic.inj lc l B2 B q2 hB (by rw [q3, hρ]; exact he)
              subst this
              exact h3 q1)
          mid.evo.nx (by rw [← hnx] at hfl; exact Nat.le_trans hfl mid.evo.nx)
        have hnn : K.nx = H.next := mid.inv.nx
        rw [hnn] at j4 j8
        refine ⟨K', ?_, ⟨j1, j2, ?_, j6.trans mid.I⟩, j7, fun _ => rfl⟩
        · rw [hlen]
          exact .ref _ _ 0 n n false a cap b (off + s * B.sz) j8 j4 (Nat.le_refl _) (by omega) (fun h => by cases h) (fun h0 => by
            obtain ⟨rfl, cs', e', f', q1, q2⟩ := ha h0
            exact ⟨by simp, cs', e', f', q1, by rw [Nat.add_mul] at q2; rw [Nat.zero_add]; omega⟩)
        · intro l' B' hB'
          by_cases e' : l' = H.next
          · subst e'
            rw [j4]
            exact .inr ⟨l, List.mem_cons_self .., ⟨B, hB⟩, by rw [hρ]⟩
          · have hold : H.blk l' = some B' := by have : (if l' = H.next then _ else _) = some B' := hB'; rwa [if_neg e'] at this
            have hlt := (mid.inv.blk l' B' hold).lt
            rw [j5 l' hlt]
            rcases mid.seen l' B' hold with g | ⟨lc, q1, q2⟩
            · exact .inl g
            · exact .inr ⟨lc, List.mem_cons_of_mem _ q1, q2⟩
      · cases hg
  | _ => exact flatCase (by simpa [give] using hg) (by intro z rows; simp)

theorem moves_trans {K K1 K2 : Ctx} {w : World} (a : Moves K K1 w w) (b : Moves K1 K2 w w) : Moves K K2 w w :=
  ⟨fun x h => b.I x (a.I x h), fun l h => (b.ρ l (a.D l h)).trans (a.ρ l h), fun l h => b.D l (a.D l h), fun _ _ => rfl, fun b cs e f h => ⟨cs, f, h, rfl⟩⟩
theorem moves_refl (K : Ctx) (w : World) : Moves K K w w := ⟨fun _ h => h, fun _ _ => rfl, fun _ h => h, fun _ _ => rfl, fun b cs e f h => ⟨cs, f, h, rfl⟩⟩

theorem hands_list {g : V → List Nat → Option (V × List Nat)} {t : V → M V} (hgt : Hands σ Kc Hc w0 w' K0 H0 g t) (G : List V → List Nat → Option (List V × List Nat)) (T : List V → M (List V))
    (hG0 : ∀ ls, G [] ls = some ([], ls)) (hG : ∀ v vs ls, G (v :: vs) ls = (g v ls).bind fun x => (G vs x.2).bind fun y => some (x.1 :: y.1, y.2))
    (hT0 : T [] = M.ret []) (hT : ∀ v vs, T (v :: vs) = (t v).bind fun v' => (T vs).bind fun vs' => M.ret (v' :: vs')) :
    ∀ (rs : List V) ls rs' ls' (xs : List Value) K H us H', rs.length = xs.length → (∀ (i : Nat) a b, rs[i]? = some a → xs[i]? = some b → Rel σ Kc w' a b) → G rs ls = some (rs', ls') → T rs' H = some (us, H') →
      Mid σ Kc Hc w0 w' K0 H0 ls K H → ∃ K', us.length = xs.length ∧ (∀ (i : Nat) a b, us[i]? = some a → xs[i]? = some b → Rel σ K' w' a b) ∧ Mid σ Kc Hc w0 w' K0 H0 ls' K' H' ∧ Moves K K' w' w' ∧
        ((∀ r ∈ rs, r.isCell = true) → ∀ u ∈ us, u.isCell = true)
  | [], ls, rs', ls', xs, K, H, us, H', hl, hr, hg, ht, mid => by
    rw [hG0] at hg
    simp only [Option.some.injEq, Prod.mk.injEq] at hg
    obtain ⟨rfl, rfl⟩ := hg
    rw [hT0] at ht
    simp only [M.ret, Option.some.injEq, Prod.mk.injEq] at ht
    obtain ⟨rfl, rfl⟩ := ht
    exact ⟨K, hl, fun i a b ha => by simp at ha, mid, moves_refl _ _, fun _ u hu => by simp at hu⟩
  | r :: rs, ls, rs', ls', xs, K, H, us, H', hl, hr, hg, ht, mid => by
    match xs, hl with
    | x :: xs, hl =>
    rw [hG] at hg
    cases h1 : g r ls with
    | none => rw [h1] at hg; simp at hg
    | some y =>
      obtain ⟨r1, ls1⟩ := y
      rw [h1] at hg
      simp only [Option.bind_some] at hg
      cases h2 : G rs ls1 with
      | none => rw [h2] at hg; simp at hg
      | some z =>
        obtain ⟨rs1, ls2⟩ := z
        rw [h2] at hg
        simp only [Option.bind_some, Option.some.injEq, Prod.mk.injEq] at hg
        obtain ⟨rfl, rfl⟩ := hg
        rw [hT] at ht
        obtain ⟨u1, H1, t1, ht⟩ := bind_eq ht
        obtain ⟨us1, H2, t2, ht⟩ := bind_eq ht
        simp only [M.ret, Option.some.injEq, Prod.mk.injEq] at ht
        obtain ⟨rfl, rfl⟩ := ht
        obtain ⟨K1, a1, a2, a3, a4⟩ := hgt r ls r1 ls1 x K H u1 H1 (hr 0 r x rfl rfl) h1 t1 mid
        obtain ⟨K2, b1, b2, b3, b4, b5⟩ := hands_list hgt G T hG0 hG hT0 hT rs ls1 rs1 ls2 xs K1 H1 us1 H2 (by simpa using hl) (fun i a b ha hb => hr (i + 1) a b (by simpa using ha) (by simpa using hb)) h2 t2 a2
        refine ⟨K2, by simp [b1], fun i a b ha hb => ?_, b3, moves_trans a3 b4, fun hcell u hu => ?_⟩
        · cases i with
          | zero => simp at ha hb; subst ha; subst hb; exact a1.mono b4
          | succ i => simp at ha hb; exact b2 i a b ha hb
        · simp at hu
          rcases hu with rfl | hu
          · exact a4 (hcell r (List.mem_cons_self ..))
          · exact b5 (fun r hr => hcell r (List.mem_cons_of_mem _ hr)) u hu

theorem give_shape {h : Heap} {v r : V} {ls ls' : List Nat} (hg : give h v ls = some (r, ls')) : r.flat = true ∨ ∃ z rows, r = .own z rows := by
  unfold give at hg
  split at hg
  · rename_i l z s n c ex
    cases hB : h.blk l with
    | none => rw [hB] at hg; simp at hg
    | some B =>
      rw [hB] at hg
      simp only [Option.bind_some] at hg
      split at hg
      · simp only [Option.some.injEq, Prod.mk.injEq] at hg
        exact .inr ⟨_, _, hg.1.symm⟩
      · cases hg
  · split at hg
    · rename_i hf
      simp only [Option.some.injEq, Prod.mk.injEq] at hg
      rw [← hg.1]
      exact .inl hf
    · cases hg

theorem hands_give2 (h1 : Hands σ Kc Hc w0 w' K0 H0 (give Hc) take1) : Hands σ Kc Hc w0 w' K0 H0 (give2 Hc) take2 := by
  intro r ls r' ls' x K H u H' hr hg ht mid
  by_cases ha : ∃ l, r = .agg l
  · obtain ⟨l, rfl⟩ := ha
    cases hr with
    | agg _ cs hl hc hrl =>
      simp only [give2] at hg
      cases h2 : gives Hc l ls with
      | none => rw [h2] at hg; simp at hg
      | some y =>
        obtain ⟨l1, ls1⟩ := y
        rw [h2] at hg
        simp only [Option.bind_some, Option.some.injEq, Prod.mk.injEq] at hg
        obtain ⟨rfl, rfl⟩ := hg
        simp only [take2] at ht
        obtain ⟨us, H1, t1, ht⟩ := bind_eq ht
        simp only [M.ret, Option.some.injEq, Prod.mk.injEq] at ht
        obtain ⟨rfl, rfl⟩ := ht
        obtain ⟨K1, b1, b2, b3, b4, b5⟩ := hands_list h1 (gives Hc) takes (fun _ => rfl) (fun _ _ _ => rfl) rfl (fun _ _ => rfl) l ls l1 ls1 cs.toList K H us H1 (by simpa using hl) (fun i a b ha hb => hrl i a b ha (by simpa using hb)) h2 t1 mid
        exact ⟨K1, .agg us cs (by simpa using b1) (b5 hc) (fun i a b ha hb => b2 i a b ha (by simpa using hb)), b3, b4, fun h => by cases h⟩
  · have hg' : give Hc r ls = some (r', ls') := by cases r <;> first | exact absurd ⟨_, rfl⟩ ha | exact hg
    have hna : ∀ l, r' ≠ .agg l := fun l e => by
      rcases give_shape hg' with h | ⟨z, rows, h⟩
      · rw [e] at h; cases h
      · rw [e] at h; cases h
    have ht' : take1 r' H = some (u, H') := by cases r' <;> first | exact absurd rfl (hna _) | exact ht
    exact h1 r ls r' ls' x K H u H' hr hg' ht' mid

theorem ok_callOwn {f : FuncId} {cf : List V → M V} (hf : SoundF C σ f cf) : SoundF C σ f (callP true cf) := by
  intro K H w vs xs v H' inv gl ar h
  have hfl := inv.flo
  unfold callP at h
  cases hm : vs.mapM (thawV true H) with
  | none => rw [hm] at h; simp at h
  | some as =>
  rw [hm] at h
  simp only [Option.bind_some] at h
  cases hr : cf as Heap.empty with
  | none => rw [hr] at h; simp at h
  | some rh =>
  obtain ⟨r, Hc⟩ := rh
  rw [hr] at h
  simp only [Option.bind_some, if_true] at h
  cases hg : giveV Hc r with
  | none => rw [hg] at h; simp at h
  | some u =>
  rw [hg] at h
  simp only [Option.bind_some] at h
  have c4 : ArgsRel σ ⟨fun b => b < w.heap.size, fun _ => (0, 0, 0), 0, fun _ => False⟩ w as xs := by
    obtain ⟨m1, m2⟩ := mapM_get hm
    refine ⟨m1.symm.trans ar.1, fun i a b ha hb => ?_⟩
    have hlt : i < vs.length := by rw [m1]; exact (List.getElem?_eq_some_iff.1 ha).1
    obtain ⟨b', q1, q2⟩ := m2 i _ (List.getElem?_eq_getElem hlt)
    rw [ha] at q1
    injection q1 with q1
    subst q1
    refine thawV_rel inv (ar.2 i _ b (List.getElem?_eq_getElem hlt) hb) q2 _ (fun l B hB => ?_) (fun _ => inv.imm)
    obtain ⟨cs, e, g1, _⟩ := (inv.blk l B hB).at_
    exact g1.lt
  have inv0 : Inv σ ⟨fun b => b < w.heap.size, fun _ => (0, 0, 0), 0, fun _ => False⟩ Heap.empty w := ⟨rfl, fun _ h => h.elim, Nat.le_refl _, fun l B h => (by simp [Heap.empty] at h), fun l l' B B' h => (by simp [Heap.empty] at h), fun _ h => h⟩
  refine ⟨(hf _ _ w as xs r Hc inv0 (gl.sub inv.imm) c4 hr).1, (hf _ _ w as xs r Hc inv0 (gl.sub inv.imm) c4 hr).2.mono fun e w' he => ?_⟩
  obtain ⟨x, rfl, Kc, r1, r2, r3⟩ := he
  have fr : ∀ b, b < w.heap.size → w'.heap[b]? = w.heap[b]? := fun b hb => r3.frame b hb (fun l B h => (by simp [Heap.empty] at h))
  have fresh : ∀ l B, Hc.blk l = some B → w.heap.size ≤ (Kc.ρ l).1 := fun l B hB => by
    rcases Nat.lt_or_ge (Kc.ρ l).1 w.heap.size with g | g
    · obtain ⟨l0, B0, h0, _⟩ := r3.range l B hB g
      simp [Heap.empty] at h0
    · exact g
  have evo : Evo K H w K H w' := {
    I := fun _ h => h
    ρ := fun _ _ => rfl
    D := fun _ h => h
    nx := Nat.le_refl _
    floor := rfl
    low := fun _ _ _ => rfl
    frame := fun b hb _ => fr b hb
    shape := fun b cs e f h => ⟨cs, f, (fr b (Array.getElem?_eq_some_iff.1 h).1).trans h, rfl⟩
    size := r3.size
    os := r3.os
    tape := r3.tape
    output := r3.output
    range := fun l B h _ => ⟨l, B, h, rfl, .inl rfl⟩
    newI := fun b h hb => h
    newD := fun _ h _ => h }
  have mv := inv.moves evo
  have inv' : Inv σ K H w' := by
    refine ⟨inv.nx, inv.dom, inv.flo, fun l B hB => ?_, inv.inj, fun b hb => Nat.lt_of_lt_of_le (inv.imm b hb) r3.size⟩
    have h0 := inv.blk l B hB
    obtain ⟨cs, e, g1, g2, g3⟩ := h0.at_
    refine ⟨h0.lt, h0.sz, h0.own, h0.rows, cs, e, g1.same (fr _ g1.lt), g2, fun i rr j c hi hj => ?_⟩
    obtain ⟨q1, y, q2, q3⟩ := g3 i rr j c hi hj
    exact ⟨q1, y, q2, q3.mono mv⟩
  have mid : Mid σ Kc Hc w w' K H [] K H := ⟨inv', evo, fun l B hB => .inl (by
    obtain ⟨cs, e, g1, _⟩ := (inv.blk l B hB).at_
    exact g1.lt), rfl⟩
  have hd1 : Hands σ Kc Hc w w' K H (give Hc) take1 := hands_give r2 fresh inv.imm hfl inv.nx
  have hd2 := hands_give2 hd1
  by_cases hta : ∃ l, r = .tuple l
  · obtain ⟨l, rfl⟩ := hta
    cases r1 with
    | tuple _ cs hl hrl =>
      simp only [giveV] at hg
      cases h2 : gives2 Hc l [] with
      | none => rw [h2] at hg; simp at hg
      | some y =>
        obtain ⟨l1, ls1⟩ := y
        rw [h2] at hg
        simp only [Option.bind_some, Option.some.injEq] at hg
        subst hg
        simp only [takeV] at h
        obtain ⟨us, H1, t1, ht⟩ := bind_eq h
        simp only [M.ret, Option.some.injEq, Prod.mk.injEq] at ht
        obtain ⟨rfl, rfl⟩ := ht
        obtain ⟨K1, b1, b2, b3, b4, b5⟩ := hands_list hd2 (gives2 Hc) takes2 (fun _ => rfl) (fun _ _ _ => rfl) rfl (fun _ _ => rfl) l [] l1 ls1 cs.toList K H us H1 (by simpa using hl) (fun i a b ha hb => hrl i a b ha (by simpa using hb)) h2 t1 mid
        exact ⟨_, rfl, K1, .tuple us cs (by simpa using b1) (fun i a b ha hb => b2 i a b ha (by simpa using hb)), b3.inv, b3.evo⟩
  · have hg' : (give2 Hc r []).bind (fun x => some x.1) = some u := by cases r <;> first | exact absurd ⟨_, rfl⟩ hta | exact hg
    cases h2 : give2 Hc r [] with
    | none => rw [h2] at hg'; simp at hg'
    | some y =>
      obtain ⟨r1', ls1⟩ := y
      rw [h2] at hg'
      simp only [Option.bind_some, Option.some.injEq] at hg'
      subst hg'
      have hnt : ∀ l, r1' ≠ .tuple l := fun l e => by
        subst e
        by_cases ha : ∃ l, r = .agg l
        · obtain ⟨l', rfl⟩ := ha
          simp only [give2] at h2
          cases h3 : gives Hc l' [] with
          | none => rw [h3] at h2; simp at h2
          | some z => rw [h3] at h2; simp at h2
        · have h3 : give Hc r [] = some (V.tuple l, ls1) := by cases r <;> first | exact absurd ⟨_, rfl⟩ ha | exact h2
          rcases give_shape h3 with h | ⟨z, rows, h⟩ <;> cases h
      have ht' : take2 r1' H = some (v, H') := by cases r1' <;> first | exact absurd rfl (hnt _) | exact h
      obtain ⟨K1, a1, a2, _, _⟩ := hd2 r [] r1' ls1 x K H v H' r1 h2 ht' mid
      exact ⟨_, rfl, K1, a1, a2.inv, a2.evo⟩
end
end Go.Fv

/-! One operation, with the calls. -/
namespace Go.Fv
open Go

section
variable {C : Cfg} {σ : Nat → Addr} {K : Ctx} {H H' : Heap} {w : World} {v : V} {call : FuncId → List V → M V}

structure Good (C : Cfg) (σ : Nat → Addr) : Prop where
  mixed : C.P.follows .mixedOrders = true
  ext : ∀ f, C.kind f = .ext → SoundF C σ f fun args => M.lift (C.X f args)
  exts : ∀ f, C.kind f = .exts → SoundF C σ f fun args => M.lift (C.X f args)
  extm : ∀ f, C.kind f = .extm → SoundF C σ f (C.Y f)

theorem ok_callV (good : Good C σ) (SF : ∀ f, SoundF C σ f (call f)) (f : FuncId) : SoundF C σ f (callV C call f) := by
  unfold callV
  cases hk : C.kind f with
  | inl => exact SF f
  | pure => exact ok_callP (SF f)
  | own => exact ok_callOwn (SF f)
  | ext => exact good.ext f hk
  | exts => exact ok_callP (good.exts f hk)
  | extm => exact good.extm f hk

theorem args_rel {e : Operand → V} {ρ : Operand → Value} (E : ∀ x, Rel σ K w (e x) (ρ x)) (args : Array Operand) : ArgsRel σ K w (args.toList.map e) (args.map ρ) := by
  refine ⟨by simp, fun i a b ha hb => ?_⟩
  rw [List.getElem?_map] at ha
  rw [Array.getElem?_map] at hb
  rw [Array.getElem?_toList] at ha
  cases hx : args[i]? with
  | none => rw [hx] at ha; simp at ha
  | some x => rw [hx] at ha hb; simp at ha hb; subst ha; subst hb; exact E x

theorem ArgsRel.append {vs us : List V} {xs ys : Array Value} (h1 : ArgsRel σ K w vs xs) (h2 : ArgsRel σ K w us ys) : ArgsRel σ K w (vs ++ us) (xs ++ ys) := by
  refine ⟨by simp [h1.1, h2.1], fun i a b ha hb => ?_⟩
  rcases Nat.lt_or_ge i vs.length with g | g
  · rw [List.getElem?_append_left g] at ha
    rw [Array.getElem?_append_left (by rw [← h1.1]; exact g)] at hb
    exact h1.2 i a b ha hb
  · rw [List.getElem?_append_right g] at ha
    rw [Array.getElem?_append_right (by rw [← h1.1]; exact g), ← h1.1] at hb
    exact h2.2 _ a b ha hb

/-- What a callee is, where a value calls it. -/
theorem callFn_eq {f : V} {x : Value} {args : List V} (hf : Rel σ K w f x) (h : callFn C call f args H = some (v, H')) :
    ∃ g caps cs, f = .fn g caps ∧ x = .func (.func g) #[] cs ∧ ArgsRel σ K w caps cs ∧ callV C call g (args ++ caps) H = some (v, H') := by
  cases hf with
  | fn g caps cs hl hr => exact ⟨g, caps, cs, rfl, rfl, ⟨hl, hr⟩, h⟩
  | _ => cases h

theorem ok_step (good : Good C σ) (SF : ∀ f, SoundF C σ f (call f)) (inv : Inv σ K H w) (gl : GlobOk C σ K w) {e : Operand → V} {a : Act} (E : ∀ x, Rel σ K w (e x) (a.eval x)) (o : Oper)
    (h : stepV C call e o.op H = some (v, H')) {next : Act → World → Prop} {Q : Exit → Act → World → Prop} (k : ∀ x w', Leads C σ K H w v H' x w' → next (a.put o.dst x) w') :
    o.wp C.P a w next Q := by
  have plain : opV C e o.op H = some (v, H') → o.wp C.P a w next Q := fun h => by
    obtain ⟨x, w', hr, hl⟩ := ok_op inv E o h
    unfold Oper.wp
    rcases hr with hr | ⟨hr, rfl⟩
    · rw [hr, Oper.upon_value]; exact k _ _ hl
    · rw [hr, Oper.upon_skip]; exact k _ _ hl
  obtain ⟨dst, op, type, pos, after, guard⟩ := o
  cases op
  case call c =>
    obtain ⟨callee, args, ats⟩ := c
    cases callee with
    | invoke r n => cases h
    | builtin b =>
      have he : ∃ consts, (execOp a.eval ⟨dst, .call ⟨.builtin b, args, ats⟩, type, pos, after, guard⟩).run C.P w = (builtin b ats type consts (args.map a.eval)).run C.P w :=
        ⟨_, by simp only [execOp, resolve, invoke, Sem.run_bind, Sem.run_pure, Result.andThen_ok]; rfl⟩
      obtain ⟨consts, he⟩ := he
      obtain ⟨x, w', hr, hl⟩ := ok_builtin (type := type) (consts := consts) inv (args_rel E args).1 (args_rel E args).2 h
      unfold Oper.wp
      rw [he]
      rcases hr with hr | ⟨hr, rfl⟩
      · rw [hr, Oper.upon_value]; exact k _ _ hl
      · rw [hr, Oper.upon_skip]; exact k _ _ hl
    | value f =>
      obtain ⟨g, caps, cs, h1, h2, h3, h4⟩ := callFn_eq (E f) h
      obtain ⟨⟨fn, c1, c2, c3⟩, c4⟩ := ok_callV good SF g K H w _ _ v H' inv gl ((args_rel E args).append h3) h4
      unfold Oper.wp
      have he : (execOp a.eval ⟨dst, .call ⟨.value f, args, ats⟩, type, pos, after, guard⟩).run C.P w = .ok (.enter g (args.map a.eval ++ cs)) w := by
        have h5 : a.eval f = .func (.func g) #[] cs := h2
        obtain ⟨cc, hb⟩ := Option.isSome_iff_exists.1 c2
        simp [execOp, resolve, invoke, Deferred.ofValue, h5, callFunc, c1, hb, c3]
      rw [he, Oper.upon_enter]
      exact c4.mono fun e' w'' he' => by
        obtain ⟨x, rfl, hl⟩ := he'
        exact k _ _ hl
  all_goals exact plain h
end
end Go.Fv

/-! Code: regions, branches, loops, whole functions. -/
namespace Go.Fv
open Go

section
variable {C : Cfg} {σ : Nat → Addr} {call : FuncId → List V → M V} {ops : Array Oper} {N : Nat}

def exOf : Ex → Exit
  | .normal => .normal
  | .exit i => .exit i
  | .ret => .ret

/-- What is known when code has run: how it left, and the plain state that stands for the world. -/
def Post (C : Cfg) (σ : Nat → Addr) (N : Nat) (K : Ctx) (H : Heap) (w : World) (ds : List Nat) (env : Env) (Kc : Ex → Env → M R) (r : R × Heap) (e : Exit) (a' : Act) (w' : World) : Prop :=
  ∃ ex env' K' H', e = exOf ex ∧ Inv σ K' H' w' ∧ GlobOk C σ K' w' ∧ EnvRel σ K' w' N env' a' ∧ Evo K H w K' H' w' ∧ (∀ t, t ∉ ds → env' t = env t) ∧ Kc ex env' H' = some r

theorem yielded_of {a : Act} {j d : Nat} {b : Bool} (hd : (ops[j]?).bind (·.dst) = some d) (h : a.tmps.getD d Go.undef = .bool b) : yielded ops a.tmps j = some b := by
  unfold yielded
  rw [hd]
  simp only [Option.bind_some]
  rw [Array.getD_eq_getD_getElem?] at h
  cases hq : a.tmps[d]? with
  | none => rw [hq] at h; simp [Go.undef] at h
  | some x => rw [hq] at h; simp at h; subst h; rfl

theorem yielded_not {a : Act} {j d : Nat} (hd : (ops[j]?).bind (·.dst) = some d) (h : ∃ cs, a.tmps.getD d Go.undef = .tuple cs) : yielded ops a.tmps j = none := by
  obtain ⟨cs, h⟩ := h
  unfold yielded
  rw [hd]
  simp only [Option.bind_some]
  rw [Array.getD_eq_getD_getElem?] at h
  cases hq : a.tmps[d]? with
  | none => rfl
  | some x => rw [hq] at h; simp at h; subst h; rfl

theorem ok_guarded (good : Good C σ) (SF : ∀ f, SoundF C σ f (call f)) {K : Ctx} {H H' : Heap} {w : World} {v : V} (inv : Inv σ K H w) (gl : GlobOk C σ K w) {env : Env} {a : Act}
    (T : ∀ t, Rel σ K w (env t) (a.tmps.getD t Go.undef)) {i : Nat} {o : Oper} (ho : ops[i]? = some o) (h : guarded C call ops env o H = some (v, H'))
    {next : Act → World → Prop} {Q : Exit → Act → World → Prop} (k : ∀ x w', Leads C σ K H w v H' x w' → next (a.put o.dst x) w') : wpOp C.P ops Q i next a w := by
  have E : ∀ x, Rel σ K w (ev C env x) (a.eval x) := fun x => by
    cases x with
    | tmp t => exact T t
    | const v => exact rel_cstV v
    | global g =>
      show Rel σ K w (match C.G g with | some row => .iptr row 0 | none => .undef) _
      cases hk : C.G g with
      | none => exact .undef _
      | some row => exact gl.g g row hk
    | func f => exact .fn f [] #[] rfl (fun i a b h => by simp at h)
  unfold wpOp
  rw [ho]
  simp only
  unfold guarded at h
  cases hg : o.guard with
  | none =>
    rw [hg] at h
    simp only at h
    have hw : Region.wanted o (yielded ops a.tmps) = true := by unfold Region.wanted; rw [hg]
    rw [if_pos hw]
    exact .inl (ok_step good SF inv gl E o h k)
  | some g =>
    obtain ⟨j, want⟩ := g
    rw [hg] at h
    simp only at h
    cases hd : (ops[j]?).bind (·.dst) with
    | none => rw [hd] at h; cases h
    | some d =>
      rw [hd] at h
      simp only at h
      have hr := T d
      generalize env d = p at h hr
      cases p with
      | bool b =>
        simp only [guardV] at h
        have hb : a.tmps.getD d Go.undef = .bool b := by
          generalize a.tmps.getD d Go.undef = y at hr
          cases hr; rfl
        have hy := yielded_of hd hb
        by_cases e : b = want
        · rw [if_pos e] at h
          have hw : Region.wanted o (yielded ops a.tmps) = true := by unfold Region.wanted; rw [hg]; simp [hy, e]
          rw [if_pos hw]
          exact .inl (ok_step good SF inv gl E o h k)
        · rw [if_neg e] at h
          have hw : Region.wanted o (yielded ops a.tmps) ≠ true := by unfold Region.wanted; rw [hg]; simp [hy, e]
          rw [if_neg hw]
          simp only [M.ret, Option.some.injEq, Prod.mk.injEq] at h
          obtain ⟨rfl, rfl⟩ := h
          exact k _ _ ⟨K, .tuple [] #[] rfl (fun i a b h => by simp at h), inv, .refl _ _ _⟩
      | tuple l0 =>
        simp only [guardV] at h
        have hb : ∃ cs, a.tmps.getD d Go.undef = .tuple cs := by
          generalize a.tmps.getD d Go.undef = y at hr
          cases hr; exact ⟨_, rfl⟩
        have hy := yielded_not hd hb
        have hw : Region.wanted o (yielded ops a.tmps) ≠ true := by unfold Region.wanted; rw [hg]; simp [hy]
        rw [if_neg hw]
        simp only [M.ret, Option.some.injEq, Prod.mk.injEq] at h
        obtain ⟨rfl, rfl⟩ := h
        exact k _ _ ⟨K, .tuple [] #[] rfl (fun i a b h => by simp at h), inv, .refl _ _ _⟩
      | _ => cases h

theorem runOps_cons (o : Oper) (l : List Oper) (env : Env) (Kc : Env → M R) : runOps C call ops (o :: l) env Kc = (guarded C call ops env o).bind fun v => runOps C call ops l (put env o.dst v) Kc := rfl

theorem ok_runOps (good : Good C σ) (SF : ∀ f, SoundF C σ f (call f)) {Kc : Ex → Env → M R} {r : R × Heap} {K0 : Ctx} {H0 : Heap} {w0 : World} {env0 : Env} (inv0 : Inv σ K0 H0 w0) {ds : List Nat} :
    ∀ (l : List Oper) (i : Nat), l = ops.toList.drop i → (∀ o ∈ l, ∀ d, o.dst = some d → d < N ∧ d ∈ ds) → ∀ K H w env a, Inv σ K H w → GlobOk C σ K w → EnvRel σ K w N env a → Evo K0 H0 w0 K H w →
      (∀ t, t ∉ ds → env t = env0 t) → runOps C call ops l env (Kc .normal) H = some r → wpOps C.P ops (Post C σ N K0 H0 w0 ds env0 Kc r) (List.range' i l.length) a w
  | [], i, hl, hN, K, H, w, env, a, inv, gl, er, evo, he, h => ⟨.normal, env, K, H, rfl, inv, gl, er, evo, he, h⟩
  | o :: l, i, hl, hN, K, H, w, env, a, inv, gl, er, evo, he, h => by
    have ho : ops[i]? = some o := by
      rw [← Array.getElem?_toList, ← Nat.add_zero i, ← List.getElem?_drop, ← hl]; rfl
    have hl' : l = ops.toList.drop (i + 1) := by
      rw [← List.drop_drop, ← hl]; rfl
    rw [List.length_cons, List.range'_succ, wpOps_cons]
    rw [runOps_cons] at h
    obtain ⟨v, H1, h1, h2⟩ := bind_eq h
    refine ok_guarded good SF inv gl er.tmp ho h1 fun x w' hx => ?_
    obtain ⟨K', r1, r2, r3⟩ := hx
    have mv := inv.moves r3
    refine ok_runOps good SF inv0 l (i + 1) hl' (fun o' ho' => hN o' (List.mem_cons_of_mem _ ho')) K' H1 w' _ _ r2 (gl.mono mv) ((er.mono mv).put (fun t ht => (hN o (List.mem_cons_self ..) t ht).1) r1) (Evo.trans inv0 inv evo r3) (fun t ht => ?_) h2
    cases hd : o.dst with
    | none => exact he t ht
    | some d =>
      show (if t = d then v else env t) = _
      rw [if_neg (fun (e : t = d) => ht (by rw [e]; exact (hN o (List.mem_cons_self ..) d hd).2))]
      exact he t ht

theorem mem_dsts {o : Oper} {d : Nat} (ho : o ∈ ops.toList) (hd : o.dst = some d) : d ∈ dsts ops := by
  unfold dsts
  rw [List.mem_filterMap]
  exact ⟨o, ho, hd⟩

theorem ok_region (good : Good C σ) (SF : ∀ f, SoundF C σ f (call f)) {Kc : Ex → Env → M R} {r : R × Heap} {K : Ctx} {H : Heap} {w : World} {env : Env} {a : Act} {id : Nat} (inv : Inv σ K H w) (gl : GlobOk C σ K w)
    (er : EnvRel σ K w N env a) (hN : ∀ d ∈ dsts ops, d < N) (h : runOps C call ops ops.toList env (Kc .normal) H = some r) : (Code.region id ops false).wp C.P (Post C σ N K H w (dsts ops) env Kc r) a w := by
  refine wp_region ?_
  have := ok_runOps (N := N) (ds := dsts ops) good SF inv ops.toList 0 (by simp) (fun o ho d hd => ⟨hN d (mem_dsts ho hd), mem_dsts ho hd⟩) K H w env a inv gl er (.refl _ _ _) (fun _ _ => rfl) h
  rw [List.range_eq_range']
  simpa using this

/-! ### Branches, loops -/

theorem mem_dedup : ∀ (l : List Nat) (t : Nat), t ∈ dedup l ↔ t ∈ l
  | [], t => Iff.rfl
  | d :: ds, t => by
    unfold dedup
    split
    · rename_i hc
      rw [mem_dedup ds t, List.mem_cons]
      constructor
      · exact .inr
      · rintro (rfl | h)
        · simpa using hc
        · exact h
    · rw [List.mem_cons, List.mem_cons, mem_dedup ds t]

theorem carried_sub (T : List Nat) (c : Code) (t : Nat) (h : t ∈ carried T c) : t ∈ allDsts c := by
  unfold carried at h
  rw [List.mem_filter] at h
  exact (mem_dedup _ t).1 h.1

theorem findIdx_some {t : Nat} : ∀ {l : List Nat} {k m : Nat}, findIdx t l k = some m → k ≤ m ∧ l[m - k]? = some t
  | [], k, m, h => by cases h
  | d :: ds, k, m, h => by
    unfold findIdx at h
    split at h
    · rename_i e
      injection h with h
      subst h; subst e
      exact ⟨Nat.le_refl _, by simp⟩
    · obtain ⟨h1, h2⟩ := findIdx_some h
      refine ⟨by omega, ?_⟩
      rw [show m - k = (m - (k + 1)) + 1 by omega, List.getElem?_cons_succ]
      exact h2

theorem findIdx_none {t : Nat} : ∀ {l : List Nat} {k : Nat}, findIdx t l k = none → t ∉ l
  | [], k, h => by simp
  | d :: ds, k, h => by
    unfold findIdx at h
    split at h
    · cases h
    · rename_i e
      rw [List.mem_cons]
      rintro (rfl | hm)
      · exact e rfl
      · exact findIdx_none h hm

theorem restore_map (env env' : Env) (ds as : List Nat) (t : Nat) : restore env ds as (ds.map env') t = env' t ∨ (t ∉ ds ∧ t ∈ as ∧ restore env ds as (ds.map env') t = .undef) ∨ (t ∉ ds ∧ t ∉ as ∧ restore env ds as (ds.map env') t = env t) := by
  unfold restore
  cases h : findIdx t ds 0 with
  | some k =>
    refine .inl ?_
    obtain ⟨_, h2⟩ := findIdx_some h
    simp only
    rw [List.getD_eq_getElem?_getD, List.getElem?_map]
    simp at h2
    rw [h2]
    rfl
  | none =>
    simp only
    have hn := findIdx_none h
    by_cases hm : t ∈ as
    · exact .inr (.inl ⟨hn, hm, by rw [if_pos (by simpa using hm)]⟩)
    · exact .inr (.inr ⟨hn, hm, by rw [if_neg (by simpa using hm)]⟩)

/-- Outside what the round writes all is as before the loop. -/
theorem restore_out (env : Env) (ds as : List Nat) (hsub : ∀ t ∈ ds, t ∈ as) (s : List V) {t : Nat} (h : t ∉ as) : restore env ds as s t = env t := by
  unfold restore
  cases hf : findIdx t ds 0 with
  | some k =>
    obtain ⟨_, h2⟩ := findIdx_some hf
    exact absurd (hsub t (List.mem_of_getElem? h2)) h
  | none => simp only; rw [if_neg (by simpa using h)]

theorem EnvRel.restore {K : Ctx} {w : World} {env env' : Env} {a : Act} {ds as : List Nat} (hsub : ∀ t ∈ ds, t ∈ as) (er : EnvRel σ K w N env' a) (hout : ∀ t, t ∉ as → env' t = env t) :
    EnvRel σ K w N (Fv.restore env ds as (ds.map env')) a := by
  refine ⟨er.size, er.defers, fun t => ?_⟩
  rcases restore_map env env' ds as t with h | ⟨_, _, h⟩ | ⟨_, h2, h⟩
  · rw [h]; exact er.tmp t
  · rw [h]; exact .undef _
  · rw [h, ← hout t h2]; exact er.tmp t

/-- What a region whose order is open needs. -/
def DrawnOk (C : Cfg) (σ : Nat → Addr) (call : FuncId → List V → M V) : Prop :=
  ∀ {ops : Array Oper} {N : Nat} {Kc : Ex → Env → M R} {r : R × Heap} {K : Ctx} {H : Heap} {w : World} {env : Env} {a : Act} {id : Nat}, Inv σ K H w → GlobOk C σ K w → EnvRel σ K w N env a → (∀ d ∈ dsts ops, d < N) →
    orderOk ops = true → runDrawn C call ops H.next ops.toList 0 [] env (Kc .normal) H = some r → (Code.region id ops true).wp C.P (Post C σ N K H w (dsts ops) env Kc r) a w

theorem Post.weak {K : Ctx} {H : Heap} {w : World} {ds ds' : List Nat} {env : Env} {Kc : Ex → Env → M R} {r : R × Heap} {e : Exit} {a' : Act} {w' : World} (h : Post C σ N K H w ds env Kc r e a' w') (hs : ∀ t ∈ ds, t ∈ ds') : Post C σ N K H w ds' env Kc r e a' w' := by
  obtain ⟨ex, env', K', H', h1, h2, h3, h4, h5, h6, h7⟩ := h
  exact ⟨ex, env', K', H', h1, h2, h3, h4, h5, fun t ht => h6 t (fun hm => ht (hs t hm)), h7⟩

theorem Post.trans {K K1 : Ctx} {H H1 : Heap} {w w1 : World} {ds : List Nat} {env env1 : Env} {Kc : Ex → Env → M R} {r : R × Heap} {e : Exit} {a' : Act} {w' : World} (inv : Inv σ K H w) (inv1 : Inv σ K1 H1 w1) (evo : Evo K H w K1 H1 w1) (he : ∀ t, t ∉ ds → env1 t = env t)
    (h : Post C σ N K1 H1 w1 ds env1 Kc r e a' w') : Post C σ N K H w ds env Kc r e a' w' := by
  obtain ⟨ex, env', K', H', h1, h2, h3, h4, h5, h6, h7⟩ := h
  exact ⟨ex, env', K', H', h1, h2, h3, h4, Evo.trans inv inv1 evo h5, fun t ht => (h6 t ht).trans (he t ht), h7⟩

theorem ok_code (good : Good C σ) (SF : ∀ f, SoundF C σ f (call f)) (dr : DrawnOk C σ call) (T : List Nat) : ∀ (c : Code) (env : Env) (Kc : Ex → Env → M R) (r : R × Heap) (K : Ctx) (H : Heap) (w : World) (a : Act),
    Inv σ K H w → GlobOk C σ K w → EnvRel σ K w N env a → (∀ d ∈ allDsts c, d < N) → runK C call T c env Kc H = some r → c.wp C.P (Post C σ N K H w (allDsts c) env Kc r) a w := by
  intro c
  induction c with
  | skip =>
    intro env Kc r K H w a inv gl er hN h
    exact wp_skip ⟨.normal, env, K, H, rfl, inv, gl, er, .refl _ _ _, fun _ _ => rfl, h⟩
  | label l =>
    intro env Kc r K H w a inv gl er hN h
    exact wp_label ⟨.normal, env, K, H, rfl, inv, gl, er, .refl _ _ _, fun _ _ => rfl, h⟩
  | exit id =>
    intro env Kc r K H w a inv gl er hN h
    exact wp_exit ⟨.exit id, env, K, H, rfl, inv, gl, er, .refl _ _ _, fun _ _ => rfl, h⟩
  | ret =>
    intro env Kc r K H w a inv gl er hN h
    exact wp_ret ⟨.ret, env, K, H, rfl, inv, gl, er, .refl _ _ _, fun _ _ => rfl, h⟩
  | region id ops draw =>
    intro env Kc r K H w a inv gl er hN h
    cases draw with
    | false => exact ok_region good SF inv gl er hN h
    | true =>
      have h' : (if orderOk ops then fun h => runDrawn C call ops h.next ops.toList 0 [] env (Kc .normal) h else M.fail) H = some r := h
      by_cases ho : orderOk ops = true
      · exact dr inv gl er hN ho (by rw [show (if orderOk ops then fun h => runDrawn C call ops h.next ops.toList 0 [] env (Kc .normal) h else M.fail) = (fun h => runDrawn C call ops h.next ops.toList 0 [] env (Kc .normal) h) from if_pos ho] at h'; exact h')
      · rw [show (if orderOk ops then fun h => runDrawn C call ops h.next ops.toList 0 [] env (Kc .normal) h else M.fail) = M.fail from if_neg ho] at h'
        cases h'
  | seq x y ihx ihy =>
    intro env Kc r K H w a inv gl er hN h
    have hx := ihx env (onNormal (fun env' => runK C call T y env' Kc) Kc) r K H w a inv gl er (fun d hd => hN d (List.mem_append_left _ hd)) h
    refine wp_seq (wp_mono hx fun e a1 w1 hp => ?_)
    obtain ⟨ex, env1, K1, H1, rfl, i1, g1, e1, v1, o1, k1⟩ := hp
    cases ex with
    | normal =>
      have hy := ihy env1 Kc r K1 H1 w1 a1 i1 g1 e1 (fun d hd => hN d (List.mem_append_right _ hd)) k1
      exact wp_mono hy fun e a2 w2 hp => (Post.weak hp (fun t ht => List.mem_append_right _ ht)).trans inv i1 v1 (fun t ht => o1 t (fun hm => ht (List.mem_append_left _ hm)))
    | exit id => exact ⟨.exit id, env1, K1, H1, rfl, i1, g1, e1, v1, fun t ht => o1 t (fun hm => ht (List.mem_append_left _ hm)), k1⟩
    | ret => exact ⟨.ret, env1, K1, H1, rfl, i1, g1, e1, v1, fun t ht => o1 t (fun hm => ht (List.mem_append_left _ hm)), k1⟩
  | cond o x y ihx ihy =>
    intro env Kc r K H w a inv gl er hN h
    have h' : condV (ev C env o) (runK C call T x env Kc) (runK C call T y env Kc) H = some r := h
    have ho := er.ev gl o
    generalize ev C env o = p at h' ho
    cases p with
    | bool b =>
      have hb : a.eval o = .bool b := by
        generalize a.eval o = y at ho
        cases ho; rfl
      refine wp_cond hb ?_
      cases b with
      | true => exact wp_mono (ihx env Kc r K H w a inv gl er (fun d hd => hN d (List.mem_append_left _ hd)) h') fun e a2 w2 hp => hp.weak fun t ht => List.mem_append_left _ ht
      | false => exact wp_mono (ihy env Kc r K H w a inv gl er (fun d hd => hN d (List.mem_append_right _ hd)) h') fun e a2 w2 hp => hp.weak fun t ht => List.mem_append_right _ ht
    | _ => cases h'
  | block id c ih =>
    intro env Kc r K H w a inv gl er hN h
    have hc := ih env (onBlock id Kc) r K H w a inv gl er hN h
    refine wp_block (wp_mono hc fun e a1 w1 hp => ?_)
    obtain ⟨ex, env1, K1, H1, rfl, i1, g1, e1, v1, o1, k1⟩ := hp
    cases ex with
    | normal => exact ⟨.normal, env1, K1, H1, rfl, i1, g1, e1, v1, o1, k1⟩
    | ret => exact ⟨.ret, env1, K1, H1, rfl, i1, g1, e1, v1, o1, k1⟩
    | exit j =>
      show if j = id then _ else _
      have k2 : (if j = id then Kc .normal env1 else Kc (.exit j) env1) H1 = some r := k1
      by_cases e : j = id
      · rw [if_pos e] at k2 ⊢
        exact ⟨.normal, env1, K1, H1, rfl, i1, g1, e1, v1, o1, k2⟩
      · rw [if_neg e] at k2 ⊢
        exact ⟨.exit j, env1, K1, H1, rfl, i1, g1, e1, v1, o1, k2⟩
  | loop c ih =>
    intro env Kc r K H w a inv gl er hN h
    have hsub : ∀ t ∈ carried T c, t ∈ allDsts c := fun t ht => carried_sub T c t ht
    have h' : M.bind (loopV (fun s => runK C call T c (restore env (carried T c) (allDsts c) s) fun e env' => M.ret (e, (carried T c).map env')) ((carried T c).map env)) (onLoop Kc env (carried T c) (allDsts c)) H = some r := h
    obtain ⟨r1, H1, hl, hk⟩ := bind_eq h'
    generalize hF : (fun s => runK C call T c (restore env (carried T c) (allDsts c) s) fun e env' => M.ret (e, (carried T c).map env')) = F at hl
    have hit : ∃ n, iter F n ((carried T c).map env) H = some (r1, H1) := by
      unfold loopV at hl
      split at hl
      · rename_i hx
        have := hx.choose_spec.choose_spec
        injection hl with hl
        exact ⟨_, this.trans (by rw [hl])⟩
      · cases hl
    obtain ⟨n, hit⟩ := hit
    refine wp_loop_rounds n ?_
    have key : ∀ n s K1 H2 w1 a1, iter F n s H2 = some (r1, H1) → Inv σ K1 H2 w1 → GlobOk C σ K1 w1 → EnvRel σ K1 w1 N (restore env (carried T c) (allDsts c) s) a1 → Evo K H w K1 H2 w1 →
        Code.rounds C.P c (Post C σ N K H w (allDsts c) env Kc r) n a1 w1 := by
      intro n
      induction n with
      | zero => intro s K1 H2 w1 a1 h; cases h
      | succ n ihn =>
        intro s K1 H2 w1 a1 hi i1 g1 e1 v1
        obtain ⟨r2, H3, f1, f2⟩ := bind_eq (m := F s) (f := fun r => match r.1 with | .normal => iter F n r.2 | _ => M.ret r) hi
        rw [← hF] at f1
        have hc := ih (restore env (carried T c) (allDsts c) s) _ (r2, H3) K1 H2 w1 a1 i1 g1 e1 hN f1
        rw [rounds_succ]
        refine wp_mono hc fun e a2 w2 hp => ?_
        obtain ⟨ex, env2, K2, H4, rfl, i2, g2, e2, v2, o2, k2⟩ := hp
        simp only [M.ret, Option.some.injEq, Prod.mk.injEq] at k2
        obtain ⟨rfl, rfl⟩ := k2
        have hout : ∀ t, t ∉ allDsts c → env2 t = env t := fun t ht => (o2 t ht).trans (restore_out env _ _ hsub s ht)
        have er2 := EnvRel.restore (ds := carried T c) hsub e2 hout
        have evo2 := Evo.trans inv i1 v1 v2
        have hout2 : ∀ t, t ∉ allDsts c → restore env (carried T c) (allDsts c) ((carried T c).map env2) t = env t := fun t ht => restore_out env _ _ hsub _ ht
        cases ex with
        | normal => exact ihn _ K2 H4 w2 a2 f2 i2 g2 er2 evo2
        | exit id =>
          simp only [M.ret, Option.some.injEq, Prod.mk.injEq] at f2
          obtain ⟨rfl, rfl⟩ := f2
          exact ⟨.exit id, _, K2, H4, rfl, i2, g2, er2, evo2, hout2, hk⟩
        | ret =>
          simp only [M.ret, Option.some.injEq, Prod.mk.injEq] at f2
          obtain ⟨rfl, rfl⟩ := f2
          exact ⟨.ret, _, K2, H4, rfl, i2, g2, er2, evo2, hout2, hk⟩
    exact key n _ K H w a hit inv gl (EnvRel.restore hsub er (fun _ _ => rfl)) (.refl _ _ _)
  | _ => intro env Kc r K H w a inv gl er hN h; cases h

/-! ### Functions -/

def resS (tmps : Array Value) : ResultVar → Sem Value
  | .tmp t => pure (tmps.getD t Go.undef)
  | .cell p t => do loadVar t (← asAddr (tmps.getD p Go.undef))

theorem loadAt_as {t : TypeId} {y x : Value} {w w' : World} (h : (Instr.loadAt t y).run C.P w = .ok x w') : (do loadVar t (← asAddr y) : Sem Value).run C.P w = .ok x w' := by
  unfold Instr.loadAt at h
  cases y with
  | pointer o => cases o with
    | none => simp [Instr.sureAddr, stuck] at h
    | some a => exact h
  | _ => simp [Instr.sureAddr, stuck] at h

def tupX : List Value → Value
  | [x] => x
  | xs => .tuple xs.toArray

theorem resV_ok {K : Ctx} {H : Heap} {w : World} {env : Env} {a : Act} (inv : Inv σ K H w) (er : EnvRel σ K w N env a) : ∀ (rs : List ResultVar) (l : List V) (H' : Heap), resV C.P env rs H = some (l, H') →
    ∃ xs : List Value, l.length = rs.length ∧ xs.length = rs.length ∧ (∀ (i : Nat) q x, rs[i]? = some q → xs[i]? = some x → (resS a.tmps q).run C.P w = .ok x w) ∧ (∀ (i : Nat) p x, l[i]? = some p → xs[i]? = some x → Rel σ K w p x) ∧ H' = H := by
  intro rs
  induction rs with
  | nil =>
    intro l H' h
    simp only [resV, M.ret, Option.some.injEq, Prod.mk.injEq] at h
    obtain ⟨rfl, rfl⟩ := h
    exact ⟨[], rfl, rfl, fun i p x h => by simp at h, fun i p x h => by simp at h, rfl⟩
  | cons q rs ih =>
    intro l H' h
    have fin : ∀ (v : V) (x : Value) l1, Rel σ K w v x → (resS a.tmps q).run C.P w = .ok x w → resV C.P env rs H = some (l1, H') → l = v :: l1 →
        ∃ xs : List Value, l.length = (q :: rs).length ∧ xs.length = (q :: rs).length ∧ (∀ (i : Nat) q' x, (q :: rs)[i]? = some q' → xs[i]? = some x → (resS a.tmps q').run C.P w = .ok x w) ∧ (∀ (i : Nat) p x, l[i]? = some p → xs[i]? = some x → Rel σ K w p x) ∧ H' = H := by
      intro v x l1 hr hx h1 hl
      obtain ⟨xs, g0, g1, g2, g3, g4⟩ := ih l1 H' h1
      subst hl
      refine ⟨x :: xs, by simp [g0], by simp [g1], fun i q' y hq hy => ?_, fun i p y hp hy => ?_, g4⟩
      · cases i with
        | zero => simp at hq hy; subst hq; subst hy; exact hx
        | succ i => simp at hq hy; exact g2 i q' y hq hy
      · cases i with
        | zero => simp at hp hy; subst hp; subst hy; exact hr
        | succ i => simp at hp hy; exact g3 i p y hp hy
    cases q with
    | tmp t =>
      simp only [resV] at h
      obtain ⟨l1, H1, h1, h2⟩ := bind_eq h
      simp only [M.ret, Option.some.injEq, Prod.mk.injEq] at h2
      obtain ⟨rfl, rfl⟩ := h2
      exact fin _ _ l1 (er.tmp t) rfl h1 rfl
    | cell p t =>
      simp only [resV] at h
      obtain ⟨v, H1, h1, h2⟩ := bind_eq h
      obtain ⟨l1, H2, h3, h4⟩ := bind_eq h2
      simp only [M.ret, Option.some.injEq, Prod.mk.injEq] at h4
      obtain ⟨rfl, rfl⟩ := h4
      obtain ⟨y, q1, q2, rfl⟩ := ok_load inv (er.tmp p) h1
      exact fin v y l1 q2 (loadAt_as q1) h3 rfl

theorem resS_inv {tmps : Array Value} {q : ResultVar} {x : Value} {w : World} (h : (resS tmps q).run C.P w = .ok x w) :
    (∃ t, q = .tmp t ∧ tmps.getD t Go.undef = x) ∨ ∃ p t a, q = .cell p t ∧ tmps.getD p Go.undef = .pointer (some a) ∧ (loadVar t a).run C.P w = .ok x w := by
  cases q with
  | tmp t => simp only [resS, Sem.run_pure, Result.ok.injEq] at h; exact .inl ⟨t, rfl, h.1⟩
  | cell p t =>
    simp only [resS] at h
    cases hq : tmps.getD p Go.undef with
    | pointer o => cases o with
      | none => rw [hq] at h; simp [asAddr, runtimePanic] at h
      | some a => rw [hq] at h; exact .inr ⟨p, t, a, rfl, hq, h⟩
    | _ => rw [hq] at h; simp [asAddr, stuck] at h

theorem results_run {fn : Func} {tmps : Array Value} {w : World} (hs : fn.results.size ≤ 3) (xs : List Value) (hl : xs.length = fn.results.toList.length)
    (h : ∀ (i : Nat) q x, fn.results.toList[i]? = some q → xs[i]? = some x → (resS tmps q).run C.P w = .ok x w) :
    (results fn tmps).run C.P w = .ok (tupX xs) w := by
  unfold results
  obtain ⟨l, hl0⟩ : ∃ l, fn.results = l.toArray := ⟨fn.results.toList, by simp⟩
  rw [hl0] at hs hl h ⊢
  simp only [List.size_toArray] at hs hl h
  match l, xs, hl with
  | [], [], _ => simp [tupX]
  | [q], [x], _ =>
    rcases resS_inv (h 0 q x rfl rfl) with ⟨t, rfl, h0⟩ | ⟨p, t, a, rfl, h0, g0⟩ <;> simp at h0 <;> simp [tupX, asAddr, *]
  | [q, q'], [x, x'], _ =>
    rcases resS_inv (h 0 q x rfl rfl) with ⟨t, rfl, h0⟩ | ⟨p, t, a, rfl, h0, g0⟩ <;> rcases resS_inv (h 1 q' x' rfl rfl) with ⟨t', rfl, h1⟩ | ⟨p', t', a', rfl, h1, g1⟩ <;> simp at h0 h1 <;> simp [tupX, asAddr, *]
  | [q, q', q''], [x, x', x''], _ =>
    rcases resS_inv (h 0 q x rfl rfl) with ⟨t, rfl, h0⟩ | ⟨p, t, a, rfl, h0, g0⟩ <;> rcases resS_inv (h 1 q' x' rfl rfl) with ⟨t', rfl, h1⟩ | ⟨p', t', a', rfl, h1, g1⟩ <;> rcases resS_inv (h 2 q'' x'' rfl rfl) with ⟨t'', rfl, h2⟩ | ⟨p'', t'', a'', rfl, h2, g2⟩ <;> simp at h0 h1 h2 <;> simp [tupX, asAddr, *]
  | _ :: _ :: _ :: _ :: _, _, _ => simp at hs

/-- The plain body stands for the Go function. -/
theorem ok_fnV (good : Good C σ) (SF : ∀ f, SoundF C σ f (call f)) (dr : DrawnOk C σ call) (f : FuncId) : SoundF C σ f (fnV C call f) := by
  intro K H w vs xs v H' inv gl ar h
  unfold fnV at h
  cases hf : C.P.funcs[f]? with
  | none => rw [hf] at h; cases h
  | some fn =>
  rw [hf] at h
  simp only at h
  cases hb : fn.body with
  | none => rw [hb] at h; cases h
  | some c =>
  rw [hb] at h
  simp only at h
  by_cases hn : fn.name = "runtime.NumGoroutine"
  · rw [if_pos hn] at h; cases h
  rw [if_neg hn] at h
  unfold bodyV at h
  by_cases hok : okFn fn c = true
  case neg => rw [if_neg hok] at h; cases h
  rw [if_pos hok] at h
  refine ⟨⟨fn, hf, by rw [hb]; rfl, hn⟩, calls_of_wp hf hb ?_⟩
  obtain ⟨r, H1, h1, h2⟩ := bind_eq h
  simp only [M.ret, Option.some.injEq, Prod.mk.injEq] at h2
  obtain ⟨rfl, rfl⟩ := h2
  unfold okFn at hok
  rw [Bool.and_eq_true, decide_eq_true_eq, List.all_eq_true] at hok
  have er : EnvRel σ K w fn.ntmps (fun t => vs.getD t .undef) { tmps := xs ++ Array.replicate (fn.ntmps - xs.size) Go.undef, defers := [] } := by
    refine ⟨by simp; omega, rfl, fun t => ?_⟩
    show Rel σ K w (vs.getD t .undef) ((xs ++ Array.replicate (fn.ntmps - xs.size) Go.undef).getD t Go.undef)
    rw [List.getD_eq_getElem?_getD, Array.getD_eq_getD_getElem?]
    cases hv : vs[t]? with
    | none => exact .undef _
    | some p =>
      have hlt : t < xs.size := by rw [← ar.1]; exact (List.getElem?_eq_some_iff.1 hv).1
      rw [Array.getElem?_append_left hlt]
      have hx : xs[t]? = some xs[t] := Array.getElem?_eq_getElem hlt
      rw [hx]
      exact ar.2 t p xs[t] hv hx
  have key := ok_code (N := fn.ntmps) good SF dr _ c (fun t => vs.getD t .undef) (finish C.P fn) (r, H1) K H w _ inv gl er (fun d hd => of_decide_eq_true (hok.2 d hd)) h1
  refine wp_mono key fun e a' w' hp => ?_
  obtain ⟨ex, env', K', H2, rfl, i2, g2, e2, v2, _, k2⟩ := hp
  have fin : (resV C.P env' fn.results.toList).bind (fun l => M.ret (Ex.ret, tupV l)) H2 = some (r, H1) →
      a'.defers = [] ∧ ∃ x, (results fn a'.tmps).run C.P w' = .ok x w' ∧ ∃ y, Ending.returned x = Ending.returned y ∧ Leads C σ K H w (r.2.getD 0 .undef) H1 y w' := fun k2 => by
    obtain ⟨l, H3, k3, k4⟩ := bind_eq k2
    simp only [M.ret, Option.some.injEq, Prod.mk.injEq] at k4
    obtain ⟨rfl, rfl⟩ := k4
    obtain ⟨ys, q0, q1, q2, q3, rfl⟩ := resV_ok (N := fn.ntmps) i2 e2 _ l H3 k3
    refine ⟨e2.defers, _, results_run hok.1 ys q1 q2, _, rfl, K', ?_, i2, v2⟩
    have hlen : l.length = ys.length := by rw [q0, q1]
    have tup : Rel σ K' w' (.tuple l) (.tuple ys.toArray) := .tuple l _ (by simpa using hlen) (fun i p x hp hx => q3 i p x hp (by simpa using hx))
    match l, ys, hlen with
    | [], [], _ => exact tup
    | [p], [y], _ => exact q3 0 p y rfl rfl
    | _ :: _ :: _, _ :: _ :: _, _ => exact tup
  cases ex with
  | exit id => cases k2
  | normal => exact fin k2
  | ret => exact fin k2

/-- Every plain meaning, at any depth. -/
theorem ok_sem (good : Good C σ) (dr : ∀ call, (∀ f, SoundF C σ f (call f)) → DrawnOk C σ call) : ∀ n f, SoundF C σ f (sem C n f)
  | 0, f => by intro K H w vs xs v H' inv gl ar h; cases h
  | n + 1, f => ok_fnV good (ok_sem good dr n) (dr _ (ok_sem good dr n)) f

end
end Go.Fv

/-! The orders that a region leaves open. -/
namespace Go.Fv
open Go

def befG (acc : Array Nat) (o : Oper) : Nat :=
  o.after.foldl (fun s e => if Region.binds .any e then s ||| 2 ^ e.on ||| acc.getD e.on 0 else s) 0
def befStep (acc : Array Nat) (o : Oper) : Array Nat := acc.push (befG acc o)

theorem befOf_eq (ops : Array Oper) : befOf ops = ops.toList.foldl befStep #[] := by
  unfold befOf
  rw [← Array.foldl_toList]
  rfl

theorem befStep_size : ∀ (l : List Oper) (acc : Array Nat), (l.foldl befStep acc).size = acc.size + l.length
  | [], acc => rfl
  | o :: l, acc => by
    rw [List.foldl_cons, befStep_size l]
    simp [befStep]
    omega

theorem befStep_low : ∀ (l : List Oper) (acc : Array Nat) (k : Nat), k < acc.size → (l.foldl befStep acc).getD k 0 = acc.getD k 0
  | [], acc, k, _ => rfl
  | o :: l, acc, k, h => by
    rw [List.foldl_cons, befStep_low l _ k (by simp [befStep]; omega)]
    simp only [befStep, Array.getD_eq_getD_getElem?]
    rw [Array.getElem?_push_lt h, Array.getElem?_eq_getElem h]

theorem testBit_fold (acc : Array Nat) (i : Nat) : ∀ (l : List Edge) (s : Nat), (l.foldl (fun s e => if Region.binds .any e then s ||| 2 ^ e.on ||| acc.getD e.on 0 else s) s).testBit i = true ↔
    s.testBit i = true ∨ ∃ e ∈ l, Region.binds .any e = true ∧ (e.on = i ∨ (acc.getD e.on 0).testBit i = true)
  | [], s => by simp
  | e :: l, s => by
    rw [List.foldl_cons, testBit_fold acc i l]
    by_cases hb : Region.binds .any e = true
    · rw [if_pos hb]
      simp only [Nat.testBit_or, Nat.testBit_two_pow, Bool.or_eq_true, decide_eq_true_eq, List.mem_cons]
      constructor
      · rintro (((h | h) | h) | ⟨e', h1, h2, h3⟩)
        · exact .inl h
        · exact .inr ⟨e, .inl rfl, hb, .inl h⟩
        · exact .inr ⟨e, .inl rfl, hb, .inr h⟩
        · exact .inr ⟨e', .inr h1, h2, h3⟩
      · rintro (h | ⟨e', rfl | h1, h2, h3⟩)
        · exact .inl (.inl (.inl h))
        · rcases h3 with h3 | h3
          · exact .inl (.inl (.inr h3))
          · exact .inl (.inr h3)
        · exact .inr ⟨e', h1, h2, h3⟩
    · rw [if_neg hb]
      simp only [List.mem_cons]
      constructor
      · rintro (h | ⟨e', h1, h2, h3⟩)
        · exact .inl h
        · exact .inr ⟨e', .inr h1, h2, h3⟩
      · rintro (h | ⟨e', rfl | h1, h2, h3⟩)
        · exact .inl h
        · exact absurd h2 hb
        · exact .inr ⟨e', h1, h2, h3⟩

/-- What 'orderOk' says. -/
structure Ord (ops : Array Oper) : Prop where
  ok : ∀ (j : Nat) o, ops[j]? = some o → okOp o.op = true
  edge : ∀ (j : Nat) o, ops[j]? = some o → ∀ e ∈ o.after.toList, Region.binds .any e = true → e.on < j
  clash : ∀ (i j : Nat) a b, i < j → ops[i]? = some a → ops[j]? = some b → clash ops a b = true → bef ops j i = true

theorem ord_of {ops : Array Oper} (h : orderOk ops = true) : Ord ops := by
  unfold orderOk at h
  rw [Bool.and_eq_true, List.all_eq_true, List.all_eq_true] at h
  have mem : ∀ (j : Nat) o, ops[j]? = some o → (o, j) ∈ ops.toList.zipIdx := fun j o hj => by
    rw [List.mem_zipIdx_iff_getElem?]
    simpa using hj
  refine ⟨fun j o hj => ?_, fun j o hj e he hb => ?_, fun i j a b hij ha hb hc => ?_⟩
  · have := h.1 _ (mem j o hj)
    rw [Bool.and_eq_true] at this
    exact this.1
  · have := h.1 _ (mem j o hj)
    rw [Bool.and_eq_true, List.all_eq_true] at this
    have := this.2 e he
    rw [hb] at this
    simpa using this
  · have := h.2 _ (mem j b hb)
    rw [List.all_eq_true] at this
    have := this _ (mem i a ha)
    simp only [hc, decide_eq_true hij, Bool.not_true, Bool.false_or] at this
    exact this

section
variable {ops : Array Oper} (od : Ord ops)
include od

theorem bef_iff {j : Nat} {o : Oper} (hj : ops[j]? = some o) (i : Nat) : bef ops j i = true ↔ ∃ e ∈ o.after.toList, Region.binds .any e = true ∧ (e.on = i ∨ bef ops e.on i = true) := by
  have hj' : ops.toList[j]? = some o := by simpa using hj
  have hlt : j < ops.toList.length := (List.getElem?_eq_some_iff.1 hj').1
  obtain ⟨l1, l2, hsplit, htl⟩ : ∃ l1 l2, ops.toList = l1 ++ o :: l2 ∧ l1.length = j := by
    refine ⟨ops.toList.take j, ops.toList.drop (j + 1), ?_, by rw [List.length_take]; omega⟩
    have h1 : ops.toList.drop j = o :: ops.toList.drop (j + 1) := by
      rw [List.drop_eq_getElem_cons hlt]
      congr 1
      exact (List.getElem?_eq_some_iff.1 hj').2
    rw [← h1, List.take_append_drop]
  have hA : (l1.foldl befStep #[]).size = j := by rw [befStep_size]; simp [htl]
  have hval : (befOf ops).getD j 0 = befG (l1.foldl befStep #[]) o := by
    rw [befOf_eq, hsplit, List.foldl_append, List.foldl_cons, befStep_low _ _ j (by simp only [befStep, Array.size_push]; omega)]
    simp only [befStep, Array.getD_eq_getD_getElem?]
    rw [Array.getElem?_push, if_pos hA.symm]
    rfl
  have hlow : ∀ k, k < j → (l1.foldl befStep #[]).getD k 0 = (befOf ops).getD k 0 := fun k hk => by
    rw [befOf_eq, hsplit, List.foldl_append]
    exact (befStep_low (o :: l2) (l1.foldl befStep #[]) k (by omega)).symm
  unfold bef
  rw [hval]
  unfold befG
  rw [← Array.foldl_toList, testBit_fold]
  simp only [Nat.zero_testBit, Bool.false_eq_true, false_or]
  constructor
  · rintro ⟨e, h1, h2, h3⟩
    exact ⟨e, h1, h2, h3.imp id (fun h => by rwa [hlow _ (od.edge j o hj e h1 h2)] at h)⟩
  · rintro ⟨e, h1, h2, h3⟩
    exact ⟨e, h1, h2, h3.imp id (fun h => by rwa [hlow _ (od.edge j o hj e h1 h2)])⟩

theorem bef_out {j : Nat} (hj : ops.size ≤ j) (i : Nat) : bef ops j i = false := by
  unfold bef
  have : (befOf ops).getD j 0 = 0 := by
    rw [Array.getD_eq_getD_getElem?, Array.getElem?_eq_none (by rw [befOf_eq, befStep_size]; simpa using hj)]
    rfl
  rw [this, Nat.zero_testBit]

theorem bef_lt : ∀ (j i : Nat), bef ops j i = true → i < j := by
  intro j
  induction j using Nat.strongRecOn with
  | _ j ih =>
    intro i h
    cases hj : ops[j]? with
    | none => rw [bef_out od (by simpa using hj)] at h; cases h
    | some o =>
      obtain ⟨e, h1, h2, h3⟩ := (bef_iff od hj i).1 h
      have hlt := od.edge j o hj e h1 h2
      rcases h3 with rfl | h3
      · exact hlt
      · exact Nat.lt_trans (ih _ hlt i h3) hlt

theorem bef_trans : ∀ (j i k : Nat), bef ops j i = true → bef ops i k = true → bef ops j k = true := by
  intro j
  induction j using Nat.strongRecOn with
  | _ j ih =>
    intro i k h hk
    cases hj : ops[j]? with
    | none => rw [bef_out od (by simpa using hj)] at h; cases h
    | some o =>
      obtain ⟨e, h1, h2, h3⟩ := (bef_iff od hj i).1 h
      have hlt := od.edge j o hj e h1 h2
      refine (bef_iff od hj k).2 ⟨e, h1, h2, .inr ?_⟩
      rcases h3 with rfl | h3
      · exact hk
      · exact ih _ hlt i k h3 hk
end
end Go.Fv

/-! An operation sees only what it is pointed at. -/
namespace Go.Fv
open Go

/-- Leaves the heap, or adds one block, whatever lies in the heap. -/
def Lite (m : M V) : Prop := ∀ H v H', m H = some (v, H') → (H' = H ∧ ∀ H2, m H2 = some (v, H2)) ∨ ∃ b, H' = H.add b ∧ ∀ H2 : Heap, H2.next = H.next → m H2 = some (v, H2.add b)

theorem lite_lift (o : Option V) : Lite (M.lift o) := fun H v H' h => by
  obtain ⟨h1, rfl⟩ := lift_eq h
  exact .inl ⟨rfl, fun H2 => by rw [h1]; rfl⟩
theorem lite_ret (a : V) : Lite (M.ret a) := fun H v H' h => by
  simp only [M.ret, Option.some.injEq, Prod.mk.injEq] at h
  obtain ⟨rfl, rfl⟩ := h
  exact .inl ⟨rfl, fun H2 => rfl⟩
theorem lite_fail : Lite M.fail := fun H v H' h => by cases h
theorem lite_newV (x : V) : Lite (newV x) := fun H v H' h => by
  unfold newV at h
  cases hc : x.cells? with
  | none => rw [hc] at h; simp at h
  | some cs =>
    rw [hc] at h
    simp only [Option.bind_some, Option.some.injEq, Prod.mk.injEq] at h
    obtain ⟨rfl, rfl⟩ := h
    exact .inr ⟨_, rfl, fun H2 hn => by unfold newV; rw [hc, ← hn]; rfl⟩
theorem lite_newRows (sz : Nat) (rows : List (List V)) (ex : Bool) : Lite (newRows sz rows ex) := fun H v H' h => by
  simp only [newRows, Option.some.injEq, Prod.mk.injEq] at h
  obtain ⟨rfl, rfl⟩ := h
  exact .inr ⟨_, rfl, fun H2 hn => by unfold newRows; rw [hn]⟩
theorem lite_sliceV (sz len : Nat) (z : List V) (ps : List (Nat × V)) : Lite (sliceV sz len z ps) := fun H v H' h => by
  cases len with
  | zero =>
    cases ps with
    | nil =>
      simp only [sliceV, Option.some.injEq, Prod.mk.injEq] at h
      obtain ⟨rfl, rfl⟩ := h
      exact .inl ⟨rfl, fun H2 => rfl⟩
    | cons p ps => cases h
  | succ len =>
    have e : ∀ H, sliceV sz (len + 1) z ps H = (fillRows sz (List.replicate (len + 1) z) ps).bind fun rows => newRows sz rows true H := fun H => rfl
    rw [e] at h
    cases hf : fillRows sz (List.replicate (len + 1) z) ps with
    | none => rw [hf] at h; cases h
    | some rows =>
      rw [hf] at h
      rcases lite_newRows sz rows true H v H' h with ⟨h1, h2⟩ | ⟨b, h1, h2⟩
      · exact .inl ⟨h1, fun H2 => by rw [e, hf]; exact h2 H2⟩
      · exact .inr ⟨b, h1, fun H2 hn => by rw [e, hf]; exact h2 H2 hn⟩
theorem lite_newCap (sz n : Nat) (rows : List (List V)) : Lite (newCap sz n rows) := fun H v H' h => by
  simp only [newCap, Option.some.injEq, Prod.mk.injEq] at h
  obtain ⟨rfl, rfl⟩ := h
  exact .inr ⟨_, rfl, fun H2 hn => by unfold newCap; rw [hn]⟩
theorem lite_makeV (sz bytes : Nat) (z : List V) (n c : V) : Lite (makeV sz bytes z n c) := fun H v H' h => by
  unfold makeV at h ⊢
  cases hn : natOf n with
  | none => rw [hn] at h; cases h
  | some n' =>
  cases hc : natOf c with
  | none => rw [hn, hc] at h; cases h
  | some c' =>
    simp only [hn, hc, Option.bind_some] at h ⊢
    split at h
    · rename_i hif
      simp only [if_pos hif]
      cases c' with
      | zero =>
        simp only [Option.some.injEq, Prod.mk.injEq] at h
        obtain ⟨rfl, rfl⟩ := h
        exact .inl ⟨rfl, fun H2 => rfl⟩
      | succ c' => exact lite_newCap sz n' _ H v H' h
    · cases h

section
variable {C : Cfg} {call : FuncId → List V → M V} {ops : Array Oper}

/-- Neither a call, an append, a store nor a load. -/
theorem lite_step (e : Operand → V) (o : Op) (hq : isQ o = false) (hs : isS o = false) (hl : isL o = false) (hok : okOp o = true) (hm : memConv C.P o = false) : Lite (stepV C call e o) := by
  cases o
  case call c =>
    obtain ⟨callee, args, ats⟩ := c
    cases callee with
    | value f => simp [isQ] at hq
    | invoke r n => exact lite_fail
    | builtin b =>
      have two : ∀ (b : Builtin) (f : V → V → Option V), (∀ x y, builtinV C b ats [x, y] = M.lift (f x y)) → (∀ xs, xs.length ≠ 2 → builtinV C b ats xs = M.fail) → Lite (builtinV C b ats (args.toList.map e)) := fun b f h1 h2 => by
        generalize args.toList.map e = xs
        match xs with
        | [x, y] => rw [h1]; exact lite_lift _
        | [] => rw [h2 _ (by simp)]; exact lite_fail
        | [_] => rw [h2 _ (by simp)]; exact lite_fail
        | _ :: _ :: _ :: _ => rw [h2 _ (by simp)]; exact lite_fail
      cases b <;> simp [okOp, isQ] at hok hq
      · show Lite (builtinV C .len ats (args.toList.map e))
        generalize args.toList.map e = xs
        match xs with
        | [x] =>
          simp only [builtinV]
          split <;> first | exact lite_lift _ | exact lite_ret _ | exact lite_fail
        | [] => exact lite_fail
        | _ :: _ :: _ => exact lite_fail
      · exact two .max maxV (fun _ _ => rfl) fun xs h => by
          match xs, h with
          | [], _ => rfl
          | [_], _ => rfl
          | _ :: _ :: _ :: _, _ => rfl
      · exact two .min minV (fun _ _ => rfl) fun xs h => by
          match xs, h with
          | [], _ => rfl
          | [_], _ => rfl
          | _ :: _ :: _ :: _, _ => rfl
  case load => simp [isL] at hl
  case store => simp [isS] at hs
  case move => exact lite_ret _
  case assign => exact lite_ret _
  case pick => exact lite_lift _
  case alloc t => show Lite (match zeroC C.P t with | some z => newV (.agg z) | none => M.fail); split <;> first | exact lite_newV _ | exact lite_fail
  case box => exact lite_newV _
  case build t parts =>
    show Lite (opV C e (.build t parts))
    simp only [opV]
    repeat' split
    all_goals first | exact lite_lift _ | exact lite_fail
  case buildSlice t n parts =>
    show Lite (opV C e (.buildSlice t n parts))
    simp only [opV]
    repeat' split
    all_goals first | exact lite_sliceV _ _ _ _ | exact lite_fail
  case nilCheck => exact lite_lift _
  case binOp => exact lite_lift _
  case unOp => exact lite_lift _
  case convert s d x =>
    show Lite (convM C.P s d (e x))
    simp only [memConv] at hm
    unfold convM
    split
    · rename_i h1 h2
      rw [h1, h2] at hm
      cases hm
    · split
      · split <;> first | exact lite_newRows _ _ _ | exact lite_fail
      · exact lite_fail
    · exact lite_lift _
  case makeInterface t x => show Lite (opV C e (.makeInterface t x)); simp only [opV]; split <;> first | exact lite_lift _ | exact lite_fail
  case makeFunc fn first caps =>
    show Lite (opV C e (.makeFunc fn first caps))
    cases fn <;> simp only [opV] <;> first | exact lite_fail | (split <;> first | exact lite_ret _ | exact lite_fail)
  case makeSlice t n c =>
    show Lite (opV C e (.makeSlice t n c))
    simp only [opV]
    repeat' split
    all_goals first | exact lite_makeV _ _ _ _ _ | exact lite_fail
  case slice t x lo hi mx =>
    show Lite (opV C e (.slice t x lo hi mx))
    simp only [opV]
    repeat' split
    all_goals first | exact lite_lift _ | exact lite_fail
  case fieldAddr s x f =>
    show Lite (opV C e (.fieldAddr s x f))
    simp only [opV]
    repeat' split
    all_goals first | exact lite_lift _ | exact lite_fail
  case field t x f =>
    show Lite (opV C e (.field t x f))
    simp only [opV]
    repeat' split
    all_goals first | exact lite_lift _ | exact lite_fail
  case indexAddr t x i =>
    show Lite (opV C e (.indexAddr t x i))
    simp only [opV]
    repeat' split
    all_goals first | exact lite_lift _ | exact lite_fail
  case index t x i =>
    show Lite (opV C e (.index t x i))
    simp only [opV]
    repeat' split
    all_goals first | exact lite_lift _ | exact lite_fail
  case extract => exact lite_lift _
  all_goals exact lite_fail

/-- What an operation of a region does to the heap, seen from afar. -/
structure Local (isSt : Bool) (p : V) (H H' H2 H2' : Heap) : Prop where
  floor : H'.floor = H.floor
  next : H2'.next = H'.next
  le : H.next ≤ H'.next
  chg : ∀ l, l < H.next → H'.blk l ≠ H.blk l → isSt = true ∧ (∃ i f, p = .ptr l i f)
  low : ∀ l i f, isSt = true → p = .ptr l i f → (H.floor ≤ l ∧ (∃ B, H.blk l = some B) ∨ H' = H ∧ H2' = H2)
  keep : ∀ l, l < H.next → (∃ B, H'.blk l = some B) → ∃ B, H.blk l = some B
  at_ : ∀ l i f, isSt = true → p = .ptr l i f → H2'.blk l = H'.blk l
  new : ∀ l, H.next ≤ l → l < H'.next → H2'.blk l = H'.blk l
  out : ∀ l, H'.next ≤ l → H'.blk l = H.blk l
  nb : isSt = true → H'.next = H.next

theorem local_lite {m : M V} (hm : Lite m) {H H' H2 : Heap} {v : V} (h : m H = some (v, H')) {isSt : Bool} {p : V} (hn : H2.next = H.next) (hf : isSt = false) : ∃ H2', m H2 = some (v, H2') ∧ Local isSt p H H' H2 H2' := by
  subst hf
  rcases hm H v H' h with ⟨rfl, h2⟩ | ⟨b, rfl, h2⟩
  · exact ⟨H2, h2 H2, rfl, hn, Nat.le_refl _, fun l _ h => absurd rfl h, fun l i f h => (by cases h), fun l _ h => h, fun l i f h => (by cases h), fun l h1 h2 => by omega, fun l _ => rfl, fun _ => rfl⟩
  · have b1 : ∀ (G : Heap) l, (G.add b).blk l = if l = G.next then some b else G.blk l := fun _ _ => rfl
    refine ⟨H2.add b, h2 H2 hn, rfl, by show H2.next + 1 = H.next + 1; rw [hn], Nat.le_succ _, fun l hl h => ?_, fun l i f h => (by cases h), fun l hl h => ?_, fun l i f h => (by cases h), fun l h1 h2 => ?_, fun l h1 => ?_, fun h => (by cases h)⟩
    · rw [b1, if_neg (by omega)] at h; exact absurd rfl h
    · rw [b1, if_neg (by omega)] at h; exact h
    · have h2' : l < H.next + 1 := h2
      have : l = H.next := by omega
      subst this
      rw [b1, b1, hn, if_pos rfl, if_pos rfl]
    · have h1' : H.next + 1 ≤ l := h1
      rw [b1, if_neg (by omega)]

theorem local_same {H H2 : Heap} {isSt : Bool} {p : V} (hn : H2.next = H.next) (hp : ∀ l i f, p = .ptr l i f → H2.blk l = H.blk l) : Local isSt p H H H2 H2 :=
  ⟨rfl, hn, Nat.le_refl _, fun l _ h => absurd rfl h, fun l i f _ _ => .inr ⟨rfl, rfl⟩, fun l _ h => h, fun l i f _ h => hp l i f h, fun l h1 h2 => by omega, fun l _ => rfl, fun _ => rfl⟩

theorem local_step {e : Operand → V} {o : Op} {p : V} {H H' H2 : Heap} {v : V} (hq : isQ o = false) (hok : okOp o = true) (hm : memConv C.P o = false) (h : stepV C call e o H = some (v, H')) (hn : H2.next = H.next) (hf : isS o = true → H2.floor = H.floor)
    (hp : ∀ t x, o = .load t x → e x = p) (hp' : ∀ t x y, o = .store t x y → e x = p) (hb : ∀ l i f, (isL o = true ∨ isS o = true) → p = .ptr l i f → H2.blk l = H.blk l) (hbnd : ∀ l B, H.blk l = some B → l < H.next) :
    ∃ H2', stepV C call e o H2 = some (v, H2') ∧ Local (isS o) p H H' H2 H2' := by
  cases hS : isS o with
  | true =>
    cases o <;> simp [isS] at hS
    rename_i t x y
    have hx := hp' t x y rfl
    have e1 : ∀ G, stepV C call e (.store t x y) G = (if 0 < C.P.cellsOf t then storeN (C.P.cellsOf t) p (e y) else M.fail) G := fun G => by rw [← hx]; rfl
    rw [e1] at h
    rw [e1]
    by_cases h0 : 0 < C.P.cellsOf t
    case neg => rw [if_neg h0] at h; cases h
    rw [if_pos h0] at h ⊢
    cases p with
    | ptr l i f =>
      have e2 : ∀ G, storeN (C.P.cellsOf t) (.ptr l i f) (e y) G = (if G.floor ≤ l then
          ((e y).cells?).bind fun cs => if cs.length = C.P.cellsOf t then (G.blk l).bind fun b => (b.rows[i]?).bind fun r => (putRow r f cs).bind fun r' =>
            some (.undef, G.set l ⟨b.sz, b.rows.set i r'⟩) else none else none) := fun G => rfl
      have hbl := hb l i f (.inr rfl) rfl
      have hfl := hf rfl
      rw [e2] at h
      rw [e2, hfl, hbl]
      split at h
      case isFalse => cases h
      rename_i hle
      rw [if_pos hle]
      cases hc : (e y).cells? with
      | none => rw [hc] at h; cases h
      | some cs =>
      rw [hc] at h
      simp only [Option.bind_some] at h ⊢
      split at h
      case isFalse => cases h
      rename_i hlen
      rw [if_pos hlen]
      cases hB : H.blk l with
      | none => rw [hB] at h; cases h
      | some b =>
      rw [hB] at h
      simp only [Option.bind_some] at h ⊢
      cases hr : b.rows[i]? with
      | none => rw [hr] at h; cases h
      | some r =>
      rw [hr] at h
      simp only [Option.bind_some] at h ⊢
      cases hpr : putRow r f cs with
      | none => rw [hpr] at h; cases h
      | some r' =>
      rw [hpr] at h
      simp only [Option.bind_some, Option.some.injEq, Prod.mk.injEq] at h ⊢
      obtain ⟨rfl, rfl⟩ := h
      have hlt := hbnd l b hB
      have s1 : ∀ (G : Heap) B l', (G.set l B).blk l' = if l' = l then some B else G.blk l' := fun _ _ _ => rfl
      refine ⟨_, ⟨rfl, rfl⟩, rfl, hn, Nat.le_refl _, fun l' hl' hne => ?_, fun l' i' f' _ he => ?_, fun l' hl' hs => ?_, fun l' i' f' _ he => ?_, fun l' h1 h2 => ?_, fun l' h1 => ?_, fun _ => rfl⟩
      · by_cases el : l' = l
        · subst el; exact ⟨rfl, i, f, rfl⟩
        · rw [s1, if_neg el] at hne; exact absurd rfl hne
      · injection he with he; subst he; exact .inl ⟨hle, b, hB⟩
      · by_cases el : l' = l
        · subst el; exact ⟨b, hB⟩
        · rw [s1, if_neg el] at hs; exact hs
      · injection he with he; subst he; rw [s1, s1, if_pos rfl, if_pos rfl]
      · have h2' : l' < H.next := h2
        omega
      · have h1' : H.next ≤ l' := h1
        rw [s1, if_neg (by omega)]
    | _ => cases h
  | false =>
    cases hL : isL o with
    | false => exact local_lite (lite_step e o hq hS hL hok hm) h hn rfl
    | true =>
      cases o <;> simp [isL] at hL
      rename_i t x
      have hx := hp t x rfl
      have e1 : ∀ G, stepV C call e (.load t x) G = loadT C.P t p G := fun G => by rw [← hx]; rfl
      rw [e1] at h
      rw [e1]
      have pl : placeV p H2 = placeV p H := by
        cases p with
        | ptr l i f => simp only [placeV]; rw [hb l i f (.inl rfl) rfl]
        | _ => rfl
      have key : ∀ G, placeV p G = placeV p H → ∃ w, loadT C.P t p G = some (v, G) ∧ w = v ∧ H' = H := fun G hG => by
        unfold loadT at h ⊢
        cases ha : isAgg C.P t with
        | none => rw [ha] at h; cases h
        | some ag =>
          rw [ha] at h
          cases ag with
          | true =>
            simp only [loadN] at h ⊢
            rw [hG]
            cases hpl : placeV p H with
            | none => rw [hpl] at h; cases h
            | some ro =>
              rw [hpl] at h
              simp only [Option.bind_some] at h ⊢
              split at h
              · rename_i hh
                simp only [Option.some.injEq, Prod.mk.injEq] at h
                obtain ⟨rfl, rfl⟩ := h
                rw [if_pos hh]
                exact ⟨_, rfl, rfl, rfl⟩
              · cases h
          | false =>
            simp only [load1] at h ⊢
            rw [hG]
            cases hpl : placeV p H with
            | none => rw [hpl] at h; cases h
            | some ro =>
              rw [hpl] at h
              simp only [Option.bind_some] at h ⊢
              cases hq2 : ro.1[ro.2]? with
              | none => rw [hq2] at h; cases h
              | some c =>
                rw [hq2] at h
                simp only [Option.bind_some, Option.some.injEq, Prod.mk.injEq] at h
                obtain ⟨rfl, rfl⟩ := h
                exact ⟨_, rfl, rfl, rfl⟩
      obtain ⟨_, k1, _, k2⟩ := key H2 pl
      subst k2
      exact ⟨H2, k1, local_same hn (fun l i f he => hb l i f (.inl rfl) he)⟩
end
end Go.Fv

/-! Guarded operations: what they look at, and what they see. -/
namespace Go.Fv
open Go

section
variable {C : Cfg} {call : FuncId → List V → M V} {ops : Array Oper}

theorem ptrOf_load (env : Env) (t : TypeId) (x : Operand) : ptrOf C env (.load t x) = ev C env x := rfl
theorem ptrOf_store (env : Env) (t : TypeId) (x y : Operand) : ptrOf C env (.store t x y) = ev C env x := rfl

theorem local_guarded {env : Env} {o : Oper} {H H' H2 : Heap} {v : V} (hq : isQ o.op = false) (hok : okOp o.op = true) (hm : memConv C.P o.op = false) (h : guarded C call ops env o H = some (v, H')) (hn : H2.next = H.next) (hf : isS o.op = true → H2.floor = H.floor)
    (hb : ∀ l i f, (isL o.op = true ∨ isS o.op = true) → ptrOf C env o.op = .ptr l i f → H2.blk l = H.blk l) (hbnd : ∀ l B, H.blk l = some B → l < H.next) :
    ∃ H2', guarded C call ops env o H2 = some (v, H2') ∧ Local (isS o.op) (ptrOf C env o.op) H H' H2 H2' := by
  have run : stepV C call (ev C env) o.op H = some (v, H') → ∃ H2', stepV C call (ev C env) o.op H2 = some (v, H2') ∧ Local (isS o.op) (ptrOf C env o.op) H H' H2 H2' := fun h =>
    local_step hq hok hm h hn hf (fun t x he => by rw [he]; rfl) (fun t x y he => by rw [he]; rfl) hb hbnd
  unfold guarded at h ⊢
  cases hg : o.guard with
  | none =>
    rw [hg] at h
    exact run h
  | some g =>
    obtain ⟨j, want⟩ := g
    rw [hg] at h
    simp only at h ⊢
    cases hd : (ops[j]?).bind (·.dst) with
    | none => rw [hd] at h; cases h
    | some d =>
      rw [hd] at h
      simp only at h ⊢
      generalize env d = p at h ⊢
      cases p with
      | bool b =>
        simp only [guardV] at h ⊢
        by_cases e : b = want
        · rw [if_pos e] at h ⊢
          exact run h
        · rw [if_neg e] at h ⊢
          simp only [M.ret, Option.some.injEq, Prod.mk.injEq] at h
          obtain ⟨rfl, rfl⟩ := h
          have hb' : isS o.op = true → ∀ l i f, ptrOf C env o.op = .ptr l i f → H2.blk l = H.blk l := fun hs l i f he => hb l i f (.inr hs) he
          refine ⟨H2, rfl, rfl, hn, Nat.le_refl _, fun l _ h => absurd rfl h, fun l i f _ _ => .inr ⟨rfl, rfl⟩, fun l _ h => h, fun l i f hs h => hb' hs l i f h, fun l h1 h2 => by omega, fun l _ => rfl, fun _ => rfl⟩
      | tuple l0 =>
        simp only [guardV] at h ⊢
        simp only [M.ret, Option.some.injEq, Prod.mk.injEq] at h
        obtain ⟨rfl, rfl⟩ := h
        have hb' : isS o.op = true → ∀ l i f, ptrOf C env o.op = .ptr l i f → H2.blk l = H.blk l := fun hs l i f he => hb l i f (.inr hs) he
        refine ⟨H2, rfl, rfl, hn, Nat.le_refl _, fun l _ h => absurd rfl h, fun l i f _ _ => .inr ⟨rfl, rfl⟩, fun l _ h => h, fun l i f hs h => hb' hs l i f h, fun l h1 h2 => by omega, fun l _ => rfl, fun _ => rfl⟩
      | _ => cases h

theorem mem_tmpsOf {xs : Array Operand} {t : Nat} : t ∈ tmpsOf xs ↔ Operand.tmp t ∈ xs.toList := by
  unfold tmpsOf
  rw [List.mem_filterMap]
  constructor
  · rintro ⟨x, hx, h⟩
    cases x <;> simp at h
    subst h; exact hx
  · intro h; exact ⟨_, h, rfl⟩

theorem stepV_congr {e e' : Operand → V} (o : Op) (h : ∀ x, x ∈ o.operands.toList → e x = e' x) : stepV C call e o = stepV C call e' o := by
  cases o
  case call c =>
    obtain ⟨callee, args, ats⟩ := c
    cases callee with
    | invoke r n => rfl
    | builtin b =>
      show builtinV C b ats (args.toList.map e) = builtinV C b ats (args.toList.map e')
      rw [List.map_congr_left (fun x hx => h x (by simp [Op.operands, Call.operands]; simpa using hx))]
    | value f =>
      show callFn C call (e f) (args.toList.map e) = callFn C call (e' f) (args.toList.map e')
      rw [List.map_congr_left (fun x hx => h x (by simp [Op.operands, Call.operands]; exact .inr (by simpa using hx))), h f (by simp [Op.operands, Call.operands])]
  case build t parts =>
    have hm : ∀ p ∈ parts.toList, e p.2 = e' p.2 := fun p hp => h p.2 (by simp only [Op.operands]; simp; exact ⟨p.1, by simpa using hp⟩)
    simp only [stepV, opV]
    have h1 : ∀ (F : Nat × Operand → V → Option (Nat × Nat × V)), (parts.toList.mapM fun p => F p (e p.2)) = parts.toList.mapM fun p => F p (e' p.2) := fun F => by
      have : ∀ l : List (Nat × Operand), (∀ p ∈ l, e p.2 = e' p.2) → (l.mapM fun p => F p (e p.2)) = l.mapM fun p => F p (e' p.2) := by
        intro l
        induction l with
        | nil => intro _; rfl
        | cons p l ih => intro hl; rw [List.mapM_cons, List.mapM_cons, hl p (List.mem_cons_self ..), ih fun q hq => hl q (List.mem_cons_of_mem _ hq)]
      exact this _ hm
    have h2 : ∀ (F : Nat × Operand → V → Nat × Nat × V), (parts.toList.map fun p => F p (e p.2)) = parts.toList.map fun p => F p (e' p.2) := fun F => List.map_congr_left fun p hp => by rw [hm p hp]
    split
    · rename_i fs z _ _
      rw [h1 fun p x => (fs[p.1]?).map fun f => (f.offset, C.P.cellsOf f.type, x)]
    · rename_i len el z _ _
      rw [h2 fun p x => (p.1 * C.P.cellsOf el, C.P.cellsOf el, x)]
    · rfl
  case buildSlice t n parts =>
    have hm : ∀ p ∈ parts.toList, e p.2 = e' p.2 := fun p hp => h p.2 (by simp only [Op.operands]; simp; exact ⟨p.1, by simpa using hp⟩)
    simp only [stepV, opV]
    rw [List.map_congr_left (g := fun p => (p.1, e' p.2)) fun p hp => by rw [hm p hp]]
  case makeFunc fn first caps =>
    cases fn <;> simp only [stepV, opV]
    rw [List.map_congr_left (fun x hx => h x (by simp [Op.operands]; exact .inr (by simpa using hx)))]
  case slice t x lo hi mx =>
    simp only [stepV, opV]
    have hx := h x (by simp [Op.operands])
    have ho : ∀ o : Option Operand, (∀ y, o = some y → e y = e' y) → o.map e = o.map e' := fun o ho => by cases o with | none => rfl | some y => simp [ho y rfl]
    rw [hx, ho lo fun y hy => h y (by simp [Op.operands, hy]), ho hi fun y hy => h y (by simp [Op.operands, hy]), ho mx fun y hy => h y (by simp [Op.operands, hy])]
  all_goals first
    | rfl
    | (simp only [stepV, opV]
       simp only [Op.operands] at h
       first
         | (rw [h _ (List.mem_cons_self ..), h _ (List.mem_cons_of_mem _ (List.mem_cons_self ..)), h _ (List.mem_cons_of_mem _ (List.mem_cons_of_mem _ (List.mem_cons_self ..)))]; done)
         | (rw [h _ (List.mem_cons_self ..), h _ (List.mem_cons_of_mem _ (List.mem_cons_self ..))]; done)
         | rw [h _ (List.mem_cons_self ..)])

def mask (l : List Nat) (env : Env) : Env := fun t => if l.contains t then env t else .undef

theorem ev_mask {l : List Nat} {env : Env} {x : Operand} (h : ∀ t, x = .tmp t → t ∈ l) : ev C env x = ev C (mask l env) x := by
  cases x with
  | tmp t => simp only [ev, mask]; rw [if_pos (by simpa using h t rfl)]
  | _ => rfl

theorem touches_op {o : Oper} {t : Nat} (h : Operand.tmp t ∈ o.op.operands.toList) : t ∈ touches ops o := by
  unfold touches
  exact List.mem_append_left _ (List.mem_append_right _ (mem_tmpsOf.2 h))

theorem guarded_mask (env : Env) (o : Oper) : guarded C call ops env o = guarded C call ops (mask (touches ops o) env) o := by
  have hs : stepV C call (ev C env) o.op = stepV C call (ev C (mask (touches ops o) env)) o.op :=
    stepV_congr o.op fun x hx => ev_mask fun t ht => touches_op (by rw [← ht]; exact hx)
  unfold guarded
  cases hg : o.guard with
  | none => exact hs
  | some g =>
    obtain ⟨j, want⟩ := g
    simp only
    cases hd : (ops[j]?).bind (·.dst) with
    | none => rfl
    | some d =>
      simp only
      have : mask (touches ops o) env d = env d := by
        unfold mask
        rw [if_pos]
        simp only [List.contains_eq_mem, decide_eq_true_eq]
        unfold touches
        rw [hg]
        refine List.mem_append_right _ ?_
        simp only
        rw [hd]
        simp
      rw [this, hs]

theorem ptrOf_mask (env : Env) (o : Oper) : ptrOf C (mask (touches ops o) env) o.op = ptrOf C env o.op := by
  cases ho : o.op <;> try rfl
  · exact (ev_mask fun t ht => touches_op (by rw [ho, ht]; simp [Op.operands])).symm
  · exact (ev_mask fun t ht => touches_op (by rw [ho, ht]; simp [Op.operands])).symm
end
end Go.Fv
