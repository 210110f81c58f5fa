/-
  One operation, whatever it is. By an AI agent; no person has read it.
-/
import Derived.Test.YtekncgjkocgioaaGreatDoorFvP08
set_option linter.unusedVariables false
set_option linter.unusedSimpArgs false
set_option linter.unusedSectionVars false
/-! One operation, whatever it is. -/
namespace Go.Fv
open Go
def Leads (C:Cfg) (σ:Nat → Addr) (K:Ctx) (H:Heap) (w:World) (v:V) (H':Heap) (x:Value) (w':World):Prop :=
 ∃ K',Rel σ K' w' v x ∧ Inv σ K' H' w' ∧ Evo K H w K' H' w'
structure GlobOk (C:Cfg) (σ:Nat → Addr) (K:Ctx) (w:World):Prop where
 g:∀ g row,C.G g = some row → Rel σ K w (.iptr row 0) (.pointer (some ⟨g,0,none⟩))
 s:∀ k,C.S k = true → K.I (σ k).block ∧ ∃ cs t,w.heap[(σ k).block]? = some (Obj.cells cs t (0,0))
 z:∀ g v,C.Z g = some v → K.I g ∧ w.cell? ⟨g,0,none⟩ = some v
 t:∀ g cs,C.T g = some cs → K.I g ∧ ∃ e f,w.heap[g]? = some (Obj.cells cs e f)
theorem GlobOk.mono {C : Cfg} {σ : Nat → Addr} {K K' : Ctx} {w w' : World} (h : GlobOk C σ K w) (m : Moves K K' w w') : GlobOk C σ K' w' :=
  ⟨fun g row hg => (h.g g row hg).mono m, fun k hk => ⟨m.I _ (h.s k hk).1, by rw [m.same _ (h.s k hk).1]; exact (h.s k hk).2⟩,
   fun g v hg => ⟨m.I _ (h.z g v hg).1,(cell?_same (m.same _ (h.z g v hg).1)).trans (h.z g v hg).2⟩,
   fun g cs hg => ⟨m.I _ (h.t g cs hg).1,by rw [m.same _ (h.t g cs hg).1]; exact (h.t g cs hg).2⟩⟩
structure EnvRel (σ:Nat → Addr) (K:Ctx) (w:World) (N:Nat) (env:Env) (a:Act):Prop where
 size:N ≤ a.tmps.size
 defers:a.defers = []
 tmp:∀ t,Rel σ K w (env t) (a.tmps.getD t Go.undef)
theorem EnvRel.mono {σ:Nat → Addr} {K K':Ctx} {w w':World} {N:Nat} {env:Env} {a:Act} (h:EnvRel σ K w N env a) (m:Moves K K' w w'):EnvRel σ K' w' N env a :=
 ⟨h.size,h.defers,fun t => (h.tmp t).mono m⟩
theorem EnvRel.ev {C : Cfg} {σ : Nat → Addr} {K : Ctx} {w : World} {N : Nat} {env : Env} {a : Act} (h : EnvRel σ K w N env a) (g : GlobOk C σ K w) (x : Operand) : Rel σ K w (ev C env x) (a.eval x) := by
  cases x with
  | tmp t => exact h.tmp t
  | const v => exact rel_cstV v
  | global k =>
    show Rel σ K w (match C.G k with | some row => .iptr row 0 | none => .undef) _
    cases hk:C.G k with
    | none => exact .undef _
    | some row => exact g.g k row hk
  | func f => exact .fn f [] #[] rfl (fun i a b h => by simp at h)
theorem EnvRel.put {σ : Nat → Addr} {K : Ctx} {w : World} {N : Nat} {env : Env} {a : Act} (h : EnvRel σ K w N env a) {d : Option Tmp} (hd : ∀ t, d = some t → t < N) {v : V} {x : Value} (hr : Rel σ K w v x) : EnvRel σ K w N (put env d v) (a.put d x) := by
  cases d with
  | none => exact h
  | some d =>
    refine ⟨by simp [Act.put]; exact h.size,h.defers,fun t => ?_⟩
    simp only [Fv.put,Act.put]
    by_cases e:t = d
    · subst e
      have hlt:t < a.tmps.size:=Nat.lt_of_lt_of_le (hd t rfl) h.size
      simp [hlt]
      exact hr
    · rw [if_neg e]
      have : (a.tmps.setIfInBounds d x).getD t Go.undef = a.tmps.getD t Go.undef := by
        simp only [Array.getD_eq_getD_getElem?]
        rw [Array.getElem?_setIfInBounds_ne (Ne.symm e)]
      rw [this]
      exact h.tmp t
section
variable {C:Cfg} {σ:Nat → Addr} {K:Ctx} {H H':Heap} {w:World} {v:V}
theorem info_of_cells {t:TypeId} (h:0 < C.P.cellsOf t):∃ i,C.P.info? t = some i:=by
 cases hq:C.P.info? t with
 | some i => exact ⟨i,rfl⟩
 | none => simp [Program.cellsOf,hq] at h
def Runs (P:Program) (s:Sem Next) (w:World) (x:Value) (w':World):Prop:=s.run P w = .ok (.value x) w' ∨ (s.run P w = .ok .skip w' ∧ x = Go.undef)
theorem runs_value {P:Program} {s:Sem Value} {x:Value} {w':World} (h:s.run P w = .ok x w'):Runs P (do pure (.value (← s))) w x w':=.inl (by simp [h])
theorem leads_same (inv:Inv σ K H w) {x:Value} (h:Rel σ K w v x):Leads C σ K H w v H x w:=⟨K,h,inv,.refl _ _ _⟩
theorem opt_rel {e:Operand → V} {ρ:Operand → Value} (E:∀ x,Rel σ K w (e x) (ρ x)) (o:Option Operand):(o.map e = none ∧ o.map ρ = none) ∨ ∃ a b,o.map e = some a ∧ o.map ρ = some b ∧ Rel σ K w a b:=by
 cases o with
 | none => exact .inl ⟨rfl,rfl⟩
 | some x => exact .inr ⟨_,_,rfl,rfl,E x⟩
theorem ok_op (inv : Inv σ K H w) {e : Operand → V} {ρ : Operand → Value} (E : ∀ x, Rel σ K w (e x) (ρ x)) (o : Oper) (h : opV C e o.op H = some (v, H')) :
    ∃ x w',Runs C.P (execOp ρ o) w x w' ∧ Leads C σ K H w v H' x w':=by
  obtain ⟨dst,op,type,pos,after,guard⟩:=o
  cases op
  case move x => simp only [opV,M.ret,Option.some.injEq,Prod.mk.injEq] at h; obtain ⟨rfl,rfl⟩:=h; exact ⟨_,w,.inl rfl,leads_same inv (E x)⟩
  case assign x => simp only [opV,M.ret,Option.some.injEq,Prod.mk.injEq] at h; obtain ⟨rfl,rfl⟩:=h; exact ⟨_,w,.inl rfl,leads_same inv (E x)⟩
  case pick c a b =>
    obtain ⟨h2,rfl⟩:=lift_eq h
    obtain ⟨t,h3,h4⟩:=ok_pick (E c) (E a) (E b) h2
    exact ⟨_,w,.inl (by simp [execOp,h3,asBool]),leads_same inv h4⟩
  case alloc t =>
    simp only [opV] at h
    cases hz:zeroC C.P t with
    | none => rw [hz] at h; cases h
    | some z =>
      rw [hz] at h
      obtain ⟨i,zv,hi,hzv,hrz⟩:=zeroC_rel (σ:=σ) (K:=K) (w:=w) hz
      obtain ⟨y,w',K',h1,h2,h3,h4⟩:=ok_new (C:=C) (t:=t) inv hrz h
      have hnew:(newVar t zv).run C.P w = .ok y w':=h1
      exact ⟨_,w',runs_value (s:=Instr.alloc t true (.tuple #[])) (by simp [Instr.alloc,run_zeroValue hi hzv,hnew]),K',h2,h3,h4⟩
  case box t x =>
    obtain ⟨y,w',K',h1,h2,h3,h4⟩:=ok_new (C:=C) (t:=t) inv (E x) h
    exact ⟨_,w',runs_value (s:=Instr.box t (ρ x)) (by simp [Instr.box,h1]),K',h2,h3,h4⟩
  case build t parts =>
    obtain ⟨z,h1,h2,rfl⟩:=ok_build E h
    exact ⟨_,w,runs_value h1,leads_same inv h2⟩
  case buildSlice t len parts =>
    obtain ⟨z,w',K',h1,h2,h3,h4⟩:=ok_buildSlice inv E h
    exact ⟨_,w',runs_value h1,K',h2,h3,h4⟩
  case load t p =>
    obtain ⟨y,h1,h2,rfl⟩:=ok_load inv (E p) h
    exact ⟨_,w,runs_value h1,leads_same inv h2⟩
  case store t p x =>
    simp only [opV] at h
    split at h
    case isFalse => cases h
    rename_i h0
    obtain ⟨i,hi⟩:=info_of_cells h0
    obtain ⟨w',h1,rfl,h3,h4⟩:=ok_store inv (E p) (E x) hi h
    exact ⟨_,w',.inr ⟨by simp [execOp,h1],rfl⟩,K,.undef _,h3,h4⟩
  case nilCheck x =>
    obtain ⟨h2,rfl⟩:=lift_eq h
    have hx:=E x
    have key : ∀ (p : V) (y : Value), Rel σ K w p y → nilCheckV p = some v → v = p ∧ (y ≠ .pointer none ∧ y ≠ .nilIface ∧ y ≠ .nilFunc ∧ ∀ n f c, y ≠ .func (.method n) f c) := by
      intro p y hp hn
      cases hp <;> simp [nilCheckV] at hn <;> subst hn <;> simp
    obtain ⟨rfl,h3⟩:=key _ _ hx h2
    obtain ⟨n1,n2,n3,n4⟩:=h3
    refine ⟨ρ x,w,.inl ?_,leads_same inv hx⟩
    unfold execOp
    simp only
    rfl
  case binOp op t x y yt =>
    obtain ⟨h2,rfl⟩:=lift_eq h
    have arith : ∀ {op}, arithV op (e x) (e y) = some v → ∃ z w', Runs C.P (do pure (.value (← (do eqGuard op t x y (ρ x) (ρ y); binOp op t (ρ x) (ρ y) : Sem Value)))) w z w' ∧ Leads C σ K H' w v H' z w' := fun h => by
      obtain ⟨z,h3,h4⟩:=ok_arith (t:=t) (p:=x) (q:=y) (E x) (E y) h
      exact ⟨z,w,runs_value h3,leads_same inv h4⟩
    cases op <;> first
      | exact arith h2
      | (simp only [binV] at h2
         cases hT:eqTy C.P t with
         | none => rw [hT] at h2; cases h2
         | some T =>
           rw [hT] at h2
           simp only at h2
           cases hv:eqV T (isConst x || isConst y) (e x) (e y) with
           | none => rw [hv] at h2; simp at h2
           | some r =>
             rw [hv] at h2
             simp only [Option.bind_some,Option.some.injEq] at h2
             subst h2
             have:=ok_eq hT (p:=x) (q:=y) (fun h => h) (E x) (E y) hv
             first
               | exact ⟨_,w,runs_value this.1,leads_same inv (.bool _)⟩
               | exact ⟨_,w,runs_value this.2,leads_same inv (.bool _)⟩)
  case unOp op t x =>
    obtain ⟨h2,rfl⟩:=lift_eq h
    obtain ⟨z,h3,h4⟩:=ok_un (C:=C) (E x) h2
    exact ⟨z,w,runs_value h3,leads_same inv h4⟩
  case convert s d x =>
    obtain ⟨z,w',K',h1,h2,h3,h4⟩:=ok_convM inv (E x) h
    exact ⟨z,w',runs_value h1,K',h2,h3,h4⟩
  case makeInterface t x =>
    simp only [opV] at h
    split at h
    · cases h
    · rename_i ht
      obtain ⟨h2,rfl⟩:=lift_eq h
      obtain ⟨z,h3,h4⟩:=ok_iface (E x) (by simpa using ht) h2
      exact ⟨z,w,runs_value h3,leads_same inv h4⟩
  case makeFunc fn first caps =>
    cases fn <;> simp only [opV] at h <;> try (cases h; done)
    rename_i f
    have arr : ∀ caps : Array Operand, ∀ (i : Nat) a b, (caps.toList.map e)[i]? = some a → (caps.map ρ)[i]? = some b → Rel σ K w a b := fun caps i a b ha hb => by
      rw [List.getElem?_map] at ha
      rw [Array.getElem?_map] at hb
      rw [Array.getElem?_toList] at ha
      cases hq:caps[i]? with
      | none => rw [hq] at ha; simp at ha
      | some x => rw [hq] at ha hb; simp at ha hb; subst ha; subst hb; exact E x
    split at h
    · rename_i h0
      simp only [M.ret,Option.some.injEq,Prod.mk.injEq] at h
      obtain ⟨rfl,rfl⟩:=h
      have hf:first = #[]:=Array.eq_empty_of_size_eq_zero h0
      subst hf
      exact ⟨.func (.func f) #[] (caps.map ρ),w,.inl (by simp [execOp,Instr.makeFunc]),leads_same inv (.fn f _ _ (by simp) (arr caps))⟩
    · split at h
      · rename_i h0
        simp only [M.ret,Option.some.injEq,Prod.mk.injEq] at h
        obtain ⟨rfl,rfl⟩:=h
        have hf:caps = #[]:=Array.eq_empty_of_size_eq_zero h0
        subst hf
        exact ⟨.func (.func f) (first.map ρ) #[],w,.inl (by simp [execOp,Instr.makeFunc]),leads_same inv (.bfn f _ _ (by simp) (arr first))⟩
      · cases h
  case makeSlice t n c =>
    simp only [opV] at h
    cases he:elemOf C.P t with
    | none => rw [he] at h; cases h
    | some el =>
      rw [he] at h
      simp only at h
      cases hz:zeroC C.P el with
      | none => rw [hz] at h; cases h
      | some z =>
        rw [hz] at h
        simp only at h
        split at h
        · rename_i hh
          obtain ⟨y,w',K',h1,h2,h3,h4⟩:=ok_make inv (elem_under he) hz hh.2 hh.1 (E n) (E c) h
          exact ⟨_,w',runs_value h1,K',h2,h3,h4⟩
        · cases h
  case slice t x lo hi mx =>
    simp only [opV] at h
    cases hu:C.P.underlying t with
    | none => rw [hu] at h; cases h
    | some u =>
    rw [hu] at h
    cases u <;> simp only at h <;> try (cases h; done)
    case string =>
      split at h
      · cases h
      · rename_i hm
        obtain ⟨h2,rfl⟩:=lift_eq h
        have hm':mx = none:=by simpa using hm
        subst hm'
        obtain ⟨z,h3,h4⟩:=ok_slS hu (E x) (opt_rel E lo) (opt_rel E hi) h2
        have : (Instr.sliceAt t (ρ x) (lo.map ρ) (hi.map ρ) ((none : Option Operand).map ρ)).run C.P w = .ok z w := by
          simp [Instr.sliceAt,run_underlying hu,h3]
        exact ⟨z,w,runs_value this,leads_same inv h4⟩
    case slice el =>
      split at h
      case isFalse => cases h
      rename_i hh
      obtain ⟨h2,rfl⟩:=lift_eq h
      obtain ⟨z, h3, h4⟩ := ok_slice hu (E x) (opt_rel E lo) (opt_rel E hi) (opt_rel E mx) (by
        have:=hh.2
        cases mx <;> cases hi <;> simp at this ⊢) h2 (info_of_cells hh.1)
      have : (Instr.sliceAt t (ρ x) (lo.map ρ) (hi.map ρ) (mx.map ρ)).run C.P w = .ok z w := by
        simp [Instr.sliceAt,run_underlying hu,h3]
      exact ⟨z,w,runs_value this,leads_same inv h4⟩
    case array len el =>
      split at h
      case isFalse => cases h
      rename_i hh
      obtain ⟨hh1,hm⟩:=hh
      obtain ⟨h2,rfl⟩:=lift_eq h
      have hm':mx = none:=by simpa using hm
      subst hm'
      obtain ⟨z,h3,h4⟩:=ok_aslice hu hh1 (E x) (opt_rel E lo) (opt_rel E hi) h2 (info_of_cells (by rw [hh1]; decide))
      exact ⟨z,w,runs_value (s:=Instr.sliceAt t (ρ x) (lo.map ρ) (hi.map ρ) ((none:Option Operand).map ρ)) h3,leads_same inv h4⟩
  case fieldAddr s x f =>
    simp only [opV] at h
    cases hu:C.P.underlying s with
    | none => rw [hu] at h; cases h
    | some u =>
    rw [hu] at h
    cases u <;> simp only at h <;> try (cases h; done)
    rename_i fs
    cases hf:fs[f]? with
    | none => rw [hf] at h; cases h
    | some fd =>
      rw [hf] at h
      simp only at h
      split at h
      · cases h
      · rename_i hz
        obtain ⟨h2,rfl⟩:=lift_eq h
        obtain ⟨a,h3,h4⟩:=ok_padd (E x) h2
        obtain ⟨i,hi⟩:=info_of_cells (C:=C) (Nat.pos_of_ne_zero hz)
        refine ⟨_,w,runs_value (s:=Instr.fieldAt s (ρ x) f) ?_,leads_same inv h4⟩
        simp [Instr.fieldAt,run_underlying hu,hf,h3,Instr.sureAddr,fieldPlace,run_sizeOf hi,hz]
  case field t x f =>
    simp only [opV] at h
    cases hu:C.P.underlying t with
    | none => rw [hu] at h; cases h
    | some u =>
    rw [hu] at h
    cases u <;> simp only at h <;> try (cases h; done)
    rename_i fs
    cases hf:fs[f]? with
    | none => rw [hf] at h; cases h
    | some fd =>
      rw [hf] at h
      simp only at h
      cases ha:Fv.isAgg C.P fd.type with
      | none => rw [ha] at h; cases h
      | some ag =>
        rw [ha] at h
        obtain ⟨h2,rfl⟩:=lift_eq h
        obtain ⟨z,h3,h4⟩:=ok_field hu hf ha (E x) h2
        exact ⟨z,w,runs_value h3,leads_same inv h4⟩
  case indexAddr t x i =>
    simp only [opV] at h
    cases hu:C.P.underlying t with
    | none => rw [hu] at h; cases h
    | some u =>
    rw [hu] at h
    cases u <;> simp only at h <;> try (cases h; done)
    case slice el =>
      split at h
      case isFalse => cases h
      rename_i h0
      obtain ⟨h2,rfl⟩:=lift_eq h
      obtain ⟨z,h3,h4⟩:=ok_idx hu (E x) (E i) h2 (info_of_cells h0)
      exact ⟨z,w,runs_value h3,leads_same inv h4⟩
    case array n el =>
      split at h
      case isFalse => cases h
      rename_i h0
      obtain ⟨h2,rfl⟩:=lift_eq h
      obtain ⟨z,h3,h4⟩:=ok_aidx hu (E x) (E i) h2 (info_of_cells h0)
      exact ⟨z,w,runs_value h3,leads_same inv h4⟩
  case index t x i =>
    simp only [opV] at h
    cases hu:C.P.underlying t with
    | none => rw [hu] at h; cases h
    | some u =>
    rw [hu] at h
    cases u <;> simp only at h <;> try (cases h; done)
    case string =>
      obtain ⟨h2,rfl⟩:=lift_eq h
      obtain ⟨z,h3,h4⟩:=ok_indexS hu (E x) (E i) h2
      exact ⟨z,w,runs_value h3,leads_same inv h4⟩
    case array n el =>
      cases ha:Fv.isAgg C.P el with
      | none => rw [ha] at h; cases h
      | some ag =>
        rw [ha] at h
        obtain ⟨h2,rfl⟩:=lift_eq h
        obtain ⟨z,h3,h4⟩:=ok_indexA hu ha (E x) (E i) h2
        exact ⟨z,w,runs_value h3,leads_same inv h4⟩
  case extract x i =>
    obtain ⟨h2,rfl⟩:=lift_eq h
    obtain ⟨z,h3,h4⟩:=ok_extract (C:=C) (E x) h2
    exact ⟨z,w,runs_value h3,leads_same inv h4⟩
  case makeMap t r =>
    cases r with
    | some r => cases h
    | none =>
      obtain ⟨y,w',K',h1,h2,h3,h4⟩:=ok_makeMap (C:=C) (t:=t) inv h
      exact ⟨_,w',runs_value (s:=Instr.makeMap t none) h1,K',h2,h3,h4⟩
  case lookup t x i ok =>
    obtain ⟨z,h1,h2,rfl⟩:=ok_lookup inv (E x) (E i) h
    exact ⟨z,w,runs_value h1,leads_same inv h2⟩
  case mapUpdate t m k x =>
    obtain ⟨w',h1,rfl,h3,h4⟩:=ok_mapUpdate inv (E m) (E k) (E x) h
    exact ⟨_,w',.inr ⟨by simp [execOp,h1],rfl⟩,K,.undef _,h3,h4⟩
  all_goals cases h
theorem ok_builtin (inv : Inv σ K H w) {b : Builtin} {ats : Array TypeId} {type : TypeId} {consts : Array Bool} {vs : List V} {xs : Array Value} (hl0 : vs.length = xs.size)
    (hr0:∀ (i:Nat) a b,vs[i]? = some a → xs[i]? = some b → Rel σ K w a b) (h:builtinV C b ats vs H = some (v,H')) :
    ∃ x w',Runs C.P (builtin b ats type consts xs) w x w' ∧ Leads C σ K H w v H' x w':=by
  obtain ⟨l,rfl⟩:∃ l:List Value,xs = l.toArray:=⟨xs.toList,by simp⟩
  have hl:vs.length = l.length:=by simpa using hl0
  have hr:∀ (i:Nat) a b,vs[i]? = some a → l[i]? = some b → Rel σ K w a b:=fun i a b ha hb => hr0 i a b ha (by simpa using hb)
  clear hl0 hr0
  have at1 : ∀ {p} {al : List V}, vs = p :: al → ∃ a tl, l = a :: tl ∧ Rel σ K w p a := fun {p al} e => by
    subst e
    match l,hl with
    | a :: tl,_ => exact ⟨a,tl,rfl,hr 0 p a rfl rfl⟩
  unfold builtinV at h
  split at h
  ·
    rename_i x
    obtain ⟨a,tl,rfl,hra⟩:=at1 rfl
    have:tl = []:=List.eq_nil_of_length_eq_zero (by simpa using hl.symm)
    subst this
    cases ht:ats[0]? with
    | none => rw [ht] at h; cases h
    | some t =>
    rw [ht] at h
    simp only [Option.bind_some] at h
    cases hu:C.P.underlying t with
    | none => rw [hu] at h; cases h
    | some u =>
    rw [hu] at h
    have red : ∀ {z}, (Builtin.len_ #[t] type #[a]).run C.P w = .ok z w → Runs C.P (builtin .len ats type consts #[a]) w z w := fun {z} hz => by
      have:(Builtin.len_ ats type #[a]).run C.P w = .ok z w:=by rw [← hz]; simp [Builtin.len_,ht]
      exact runs_value this
    cases u <;> simp only at h <;> try (cases h; done)
    case string =>
      obtain ⟨h2,rfl⟩:=lift_eq h
      obtain ⟨z,h3,h4⟩:=ok_lenS (ty:=type) hu hra h2
      exact ⟨z,w,red h3,leads_same inv h4⟩
    case slice el =>
      obtain ⟨h2,rfl⟩:=lift_eq h
      obtain ⟨z,h3,h4⟩:=ok_len (ty:=type) hu hra h2
      exact ⟨z,w,red h3,leads_same inv h4⟩
    case array n el =>
      simp only [M.ret,Option.some.injEq,Prod.mk.injEq] at h
      obtain ⟨rfl,rfl⟩:=h
      exact ⟨goInt n,w,red (by simp [Builtin.len_,run_underlying hu]),leads_same inv (.int _ _)⟩
  ·
    rename_i x y
    obtain ⟨a,tl,rfl,hra⟩:=at1 rfl
    match tl,hl with
    | [b],_ =>
    have hrb:Rel σ K w y b:=hr 1 y b rfl rfl
    cases ht:ats[0]? with
    | none => rw [ht] at h; cases h
    | some t1 =>
    cases ht2:ats[1]? with
    | none => rw [ht,ht2] at h; simp only [Option.bind_some,Option.bind_none] at h; cases he:elemOf C.P t1 <;> rw [he] at h <;> cases h
    | some t2 =>
    rw [ht,ht2] at h
    simp only [Option.bind_some] at h
    cases he:elemOf C.P t1 with
    | none => rw [he] at h; cases h
    | some el =>
    cases hu2:C.P.underlying t2 with
    | none => rw [he,hu2] at h; cases h
    | some d2 =>
    rw [he,hu2] at h
    have fin : (∀ k, d2 ≠ .int k) → (if 0 < C.P.cellsOf el ∧ (zeroC C.P el).map List.length = some (C.P.cellsOf el) ∧ 0 < C.P.bytesOf el then appV (C.P.cellsOf el) (C.P.bytesOf el) x y else M.fail) H = some (v, H') →
        ∃ x w',Runs C.P (builtin .append ats type consts #[a,b]) w x w' ∧ Leads C σ K H w v H' x w':=fun hd2 h => by
      split at h
      case isFalse => cases h
      rename_i hh
      cases hz:zeroC C.P el with
      | none => rw [hz] at hh; simp at hh
      | some z =>
        have hzl:z.length = C.P.cellsOf el:=by have:=hh.2.1; rw [hz] at this; simpa using this
        obtain ⟨c,w',K',h1,h2,h3,h4⟩:=ok_append (ty:=type) inv ht ht2 (elem_under he) hu2 hd2 hz hzl hh.2.2 hra hrb h
        exact ⟨c,w',runs_value h1,K',h2,h3,h4⟩
    cases d2 <;> simp only at h <;> try (cases h; done)
    case string => exact fin (fun k e => by cases e) h
    case slice el2 => exact fin (fun k e => by cases e) h
  ·
    rename_i x y
    obtain ⟨a,tl,rfl,hra⟩:=at1 rfl
    match tl,hl with
    | [b],_ =>
    have hrb:Rel σ K w y b:=hr 1 y b rfl rfl
    cases ht:ats[0]? with
    | none => rw [ht] at h; cases h
    | some t1 =>
    rw [ht] at h
    simp only [Option.bind_some] at h
    cases he:elemOf C.P t1 with
    | none => rw [he] at h; cases h
    | some el =>
    rw [he] at h
    simp only at h
    split at h
    case isFalse => cases h
    rename_i h0
    obtain ⟨i,hi⟩:=info_of_cells h0
    obtain ⟨c,w',K',h1,h2,h3,h4⟩:=ok_copy (ty:=type) inv ht (elem_under he) hi hra hrb h
    exact ⟨c,w',runs_value h1,K',h2,h3,h4⟩
  ·
    rename_i x
    obtain ⟨a,tl,rfl,hra⟩:=at1 rfl
    have:tl = []:=List.eq_nil_of_length_eq_zero (by simpa using hl.symm)
    subst this
    cases ht:ats[0]? with
    | none => rw [ht] at h; cases h
    | some t1 =>
    rw [ht] at h
    simp only [Option.bind_some] at h
    cases he:elemOf C.P t1 with
    | none => rw [he] at h; cases h
    | some el =>
    rw [he] at h
    simp only at h
    cases hz:zeroC C.P el with
    | none => rw [hz] at h; cases h
    | some z =>
    rw [hz] at h
    simp only at h
    split at h
    case isFalse => cases h
    rename_i hh
    obtain ⟨c,w',K',h1,h2,h3,h4⟩:=ok_clear (ty:=type) inv ht (elem_under he) hz hh.2 hh.1 hra h
    exact ⟨c,w',runs_value h1,K',h2,h3,h4⟩
  ·
    rename_i x y
    obtain ⟨a,tl,rfl,hra⟩:=at1 rfl
    match tl,hl with
    | [b],_ =>
    have hrb:Rel σ K w y b:=hr 1 y b rfl rfl
    obtain ⟨h2,rfl⟩:=lift_eq h
    unfold maxV at h2
    split at h2
    · cases hra; cases hrb; cases h2
      exact ⟨_,w,runs_value rfl,leads_same inv (.int _ _)⟩
    · cases h2
  ·
    rename_i x y
    obtain ⟨a,tl,rfl,hra⟩:=at1 rfl
    match tl,hl with
    | [b],_ =>
    have hrb:Rel σ K w y b:=hr 1 y b rfl rfl
    obtain ⟨h2,rfl⟩:=lift_eq h
    unfold minV at h2
    split at h2
    · cases hra; cases hrb; cases h2
      exact ⟨_,w,runs_value rfl,leads_same inv (.int _ _)⟩
    · cases h2
  · cases h
end
end Go.Fv
