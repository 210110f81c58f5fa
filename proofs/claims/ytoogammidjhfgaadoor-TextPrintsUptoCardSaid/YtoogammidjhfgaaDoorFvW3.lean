/-
  A region whose order is open: the run in the order of the text, and every other. A region whose order is open: one operation, wherever it stands in the order. A region whose order is open: every order. A region whose order is open: the end. By an AI agent; no person has read it.
-/
import Derived.Test.YtoogammidjhfgaaDoorFvW2
set_option linter.unusedVariables false
set_option linter.unusedSimpArgs false
set_option linter.unusedSectionVars false
/-! A region whose order is open: the run in the order of the text, and every other. -/
namespace Go.Fv
open Go

section
variable {C : Cfg} {σ : Nat → Addr} {call : FuncId → List V → M V} {ops : Array Oper} {n0 : Nat} {hs : Nat → Heap} {es : Nat → Env} {vs : Nat → V} {bs : Nat → List (Nat × Nat × Nat × V)}

/-- The run in the order of the text, step by step. -/
def Tr (C : Cfg) (call : FuncId → List V → M V) (ops : Array Oper) (n0 : Nat) (hs : Nat → Heap) (es : Nat → Env) (vs : Nat → V) (bs : Nat → List (Nat × Nat × Nat × V)) (i n : Nat) : Prop :=
  ∀ j, i ≤ j → j < n → ∃ o, ops[j]? = some o ∧ ((conf ops j).all fun k => apartV (ptrAt (bs j) k) (ptrOf C (es j) o.op)) = true ∧
    stepD C call ops n0 j (bs j) (es j) o (hs j) = some (vs j, hs (j + 1)) ∧ es (j + 1) = put (es j) o.dst (vs j) ∧ bs (j + 1) = (j, (hs j).next, (hs (j + 1)).next, ptrOf C (es j) o.op) :: bs j

theorem runDrawn_cons (o : Oper) (l : List Oper) (i : Nat) (b : List (Nat × Nat × Nat × V)) (env : Env) (Kc : Env → M R) (h : Heap) : runDrawn C call ops n0 (o :: l) i b env Kc h =
    if (conf ops i).all fun k => apartV (ptrAt b k) (ptrOf C env o.op) then
        (stepD C call ops n0 i b env o h).bind fun x => runDrawn C call ops n0 l (i + 1) ((i, h.next, x.2.next, ptrOf C env o.op) :: b) (put env o.dst x.1) Kc x.2
      else none := rfl

theorem trace_of {Kc : Env → M R} {r : R × Heap} : ∀ (l : List Oper) (i : Nat) (b0 : List (Nat × Nat × Nat × V)) (env : Env) (h : Heap), l = ops.toList.drop i → runDrawn C call ops n0 l i b0 env Kc h = some r →
    ∃ hs es vs bs, hs i = h ∧ es i = env ∧ bs i = b0 ∧ Tr C call ops n0 hs es vs bs i (i + l.length) ∧ Kc (es (i + l.length)) (hs (i + l.length)) = some r
  | [], i, b0, env, h, _, hr => ⟨fun _ => h, fun _ => env, fun _ => .undef, fun _ => b0, rfl, rfl, rfl, fun j h1 h2 => by simp at h2; omega, hr⟩
  | o :: l, i, b0, env, h, hl, hr => by
    have ho : ops[i]? = some o := by
      rw [← Array.getElem?_toList, ← Nat.add_zero i, ← List.getElem?_drop, ← hl]; rfl
    have hl' : l = ops.toList.drop (i + 1) := by rw [← List.drop_drop, ← hl]; rfl
    rw [runDrawn_cons] at hr
    split at hr
    case isFalse => cases hr
    rename_i hc
    cases hst : stepD C call ops n0 i b0 env o h with
    | none => rw [hst] at hr; cases hr
    | some x =>
      rw [hst] at hr
      simp only [Option.bind_some] at hr
      obtain ⟨hs, es, vs, bs, q1, q2, q3, q4, q5⟩ := trace_of l (i + 1) _ _ _ hl' hr
      have e : i + 1 + l.length = i + (o :: l).length := by simp; omega
      rw [e] at q4 q5
      have ne : i + (o :: l).length ≠ i := by simp
      refine ⟨fun k => if k = i then h else hs k, fun k => if k = i then env else es k, fun k => if k = i then x.1 else vs k, fun k => if k = i then b0 else bs k, by simp, by simp, by simp, fun j h1 h2 => ?_, by simp only [if_neg ne]; exact q5⟩
      by_cases hj : j = i
      · subst hj
        refine ⟨o, ho, ?_, ?_, ?_, ?_⟩
        · simp only [if_true]; exact hc
        · simp only [if_true, if_neg (Nat.succ_ne_self j)]; rw [hst, q1]
        · simp only [if_true, if_neg (Nat.succ_ne_self j)]; exact q2
        · simp only [if_true, if_neg (Nat.succ_ne_self j)]; rw [q3, q1]
      · obtain ⟨o', p1, p2, p3, p4, p5⟩ := q4 j (by omega) h2
        have nj : j + 1 ≠ i := by omega
        exact ⟨o', p1, by simp only [if_neg hj]; exact p2, by simp only [if_neg hj, if_neg nj]; exact p3, by simp only [if_neg hj, if_neg nj]; exact p4, by simp only [if_neg hj, if_neg nj]; exact p5⟩

/-! ### Sets of operations -/

def upto (ops : Array Oper) (j i : Nat) : Prop := i = j ∨ bef ops j i = true
def wr (ops : Array Oper) (t i : Nat) : Prop := ∃ o, ops[i]? = some o ∧ o.dst = some t
def born (hs : Nat → Heap) (l i : Nat) : Prop := (hs i).next ≤ l ∧ l < (hs (i + 1)).next
def visP (ops : Array Oper) (hs : Nat → Heap) (i l : Nat) : Prop := l < (hs 0).next ∨ ∃ k, bef ops i k = true ∧ k < i ∧ born hs l k
def hitS (C : Cfg) (ops : Array Oper) (hs : Nat → Heap) (es : Nat → Env) (l i : Nat) : Prop := (∃ o, ops[i]? = some o ∧ isS o.op = true ∧ ∃ a f, ptrOf C (es i) o.op = .ptr l a f) ∨
  (isT C ops i = true ∧ (hs 0).floor ≤ l ∧ visP ops hs i l ∧ ∃ B, (hs i).blk l = some B)
def hit (C : Cfg) (ops : Array Oper) (hs : Nat → Heap) (es : Nat → Env) (l i : Nat) : Prop := i < ops.size ∧ (born hs l i ∨ hitS C ops hs es l i)
def dset (K0 : Ctx) (n : Nat) (hs : Nat → Heap) (A : Nat → Prop) (l : Nat) : Prop := K0.D l ∨ ∃ i, i < n ∧ A i ∧ born hs l i
def Last (S p : Nat → Prop) (k : Nat) : Prop := (k = 0 ∨ (S (k - 1) ∧ p (k - 1))) ∧ ∀ i, S i → p i → i < k
def Aof (ops : Array Oper) (k i : Nat) : Prop := k ≠ 0 ∧ upto ops (k - 1) i

theorem dset_mono {K0 : Ctx} {n : Nat} {A B : Nat → Prop} (h : ∀ i, A i → B i) {l : Nat} (hd : dset K0 n hs A l) : dset K0 n hs B l :=
  hd.imp id fun ⟨i, h0, h1, h2⟩ => ⟨i, h0, h i h1, h2⟩

theorem lastBelow (p : Nat → Prop) : ∀ j, ∃ k, k ≤ j ∧ (k = 0 ∨ p (k - 1)) ∧ ∀ i, p i → i < j → i < k
  | 0 => ⟨0, Nat.le_refl _, .inl rfl, fun i _ h => h⟩
  | j + 1 => by
    by_cases h : p j
    · exact ⟨j + 1, Nat.le_refl _, .inr h, fun i _ h => h⟩
    · obtain ⟨k, h1, h2, h3⟩ := lastBelow p j
      exact ⟨k, Nat.le_succ_of_le h1, h2, fun i hp hi => h3 i hp (by
        rcases Nat.lt_or_ge i j with g | g
        · exact g
        · have : i = j := by omega
          subst this; exact absurd hp h)⟩

theorem sync {S : Nat → Prop} {j : Nat} (hclo : ∀ j, S j → ∀ i, bef ops j i = true → S i) (hj : ¬ S j) (hb : ∀ i, bef ops j i = true → S i) (p : Nat → Prop)
    (h1 : ∀ i, i < j → p i → bef ops j i = true) (h2 : ∀ i, S i → j < i → p i → bef ops i j = true) :
    ∃ k, k ≤ j ∧ Last S p k ∧ (k = 0 ∨ bef ops j (k - 1) = true) ∧ (∀ i, i < j → p i → i < k) ∧ ∀ i, S i → p i → bef ops j i = true := by
  have all : ∀ i, S i → p i → i < j ∧ bef ops j i = true := fun i hi hp => by
    rcases Nat.lt_trichotomy i j with g | g | g
    · exact ⟨g, h1 i g hp⟩
    · subst g; exact absurd hi hj
    · exact absurd (hclo i hi j (h2 i hi g hp)) hj
  obtain ⟨k, k1, k2, k3⟩ := lastBelow p j
  refine ⟨k, k1, ⟨?_, fun i hi hp => k3 i hp (all i hi hp).1⟩, ?_, fun i hi hp => k3 i hp hi, fun i hi hp => (all i hi hp).2⟩
  · rcases Nat.eq_zero_or_pos k with g | g
    · exact .inl g
    · rcases k2 with k2 | k2
      · exact .inl k2
      · exact .inr ⟨hb _ (h1 _ (by omega) k2), k2⟩
  · rcases Nat.eq_zero_or_pos k with g | g
    · exact .inl g
    · rcases k2 with k2 | k2
      · exact .inl k2
      · exact .inr (h1 _ (by omega) k2)

/-! ### What the run in the order of the text shows -/

structure Fa (hs : Nat → Heap) (m : Nat) : Prop where
  nxt : ∀ j, j < m → (hs j).next ≤ (hs (j + 1)).next
  bnd : ∀ j, j ≤ m → ∀ l B, (hs j).blk l = some B → l < (hs j).next

theorem Fa.mono {m : Nat} (fa : Fa hs m) : ∀ {k i : Nat}, i ≤ k → k ≤ m → (hs i).next ≤ (hs k).next
  | 0, i, h, _ => by have : i = 0 := by omega
                     subst this; exact Nat.le_refl _
  | k + 1, i, h, hk => by
    rcases Nat.lt_or_ge i (k + 1) with g | g
    · exact Nat.le_trans (fa.mono (k := k) (by omega) (by omega)) (fa.nxt k (by omega))
    · have : i = k + 1 := by omega
      subst this; exact Nat.le_refl _

theorem Fa.born_uniq {m : Nat} (fa : Fa hs m) {l i j : Nat} (hi : i < m) (hj : j < m) (h1 : born hs l i) (h2 : born hs l j) : i = j := by
  rcases Nat.lt_trichotomy i j with g | g | g
  · have := fa.mono (i := i + 1) (k := j) g (by omega)
    have := h1.2; have := h2.1; omega
  · exact g
  · have := fa.mono (i := j + 1) (k := i) g (by omega)
    have := h2.2; have := h1.1; omega

/-- One step of that run, seen from afar. -/
structure VS (C : Cfg) (ops : Array Oper) (hs : Nat → Heap) (es : Nat → Env) (i : Nat) : Prop where
  floor : (hs (i + 1)).floor = (hs i).floor
  chg : ∀ l, l < (hs i).next → (hs (i + 1)).blk l ≠ (hs i).blk l → hitS C ops hs es l i
  keep : ∀ l, l < (hs i).next → (∃ B, (hs (i + 1)).blk l = some B) → ∃ B, (hs i).blk l = some B
  lo : ∀ l, l < (hs i).next → (hs (i + 1)).blk l ≠ (hs i).blk l → (hs i).floor ≤ l

theorem isS_not_isQ {o : Op} (h : isS o = true) : isQ o = false := by cases o <;> simp [isS, isQ] at h ⊢
theorem isL_not_isQ {o : Op} (h : isL o = true) : isQ o = false := by cases o <;> simp [isL, isQ] at h ⊢
theorem isL_not_isS {o : Op} (h : isL o = true) : isS o = false := by cases o <;> simp [isL, isS] at h ⊢

theorem isT_some {i : Nat} (h : isT C ops i = true) : ∃ o, ops[i]? = some o ∧ isQ o.op = true := by
  unfold isT at h
  cases ho : ops[i]? with
  | none => rw [ho] at h; cases h
  | some o =>
    rw [ho] at h
    simp only [Bool.and_eq_true] at h
    refine ⟨o, rfl, ?_⟩
    have h1 := h.1
    cases hop : o.op <;> rw [hop] at h1 <;> simp only [tOp, Bool.false_eq_true] at h1
    rename_i c
    unfold isQ
    simp only
    cases hc : c.callee with
    | builtin b => rw [hc] at h1; cases b <;> simp_all
    | value f => rfl
    | invoke _ _ => rw [hc] at h1; simp at h1

/-- Every operation that looks at memory stands before such a one or behind it. -/
theorem isT_cmp {i k : Nat} {o : Oper} (h : isT C ops i = true) (ho : ops[k]? = some o) (hm : isQ o.op = true ∨ isS o.op = true ∨ isL o.op = true) (hk : k ≠ i) : bef ops i k = true ∨ bef ops k i = true := by
  unfold isT at h
  cases hoi : ops[i]? with
  | none => rw [hoi] at h; cases h
  | some oi =>
    rw [hoi] at h
    simp only [Bool.and_eq_true, List.all_eq_true] at h
    have := h.2 k (List.mem_range.2 (Array.getElem?_eq_some_iff.1 ho).1)
    rw [ho] at this
    simp only [Bool.or_eq_true, beq_iff_eq, Bool.not_eq_true', Bool.or_eq_false_iff] at this
    rcases this with ((h1 | h1) | h1) | h1
    · exact absurd h1 hk
    · rcases hm with h2 | h2 | h2 <;> simp_all
    · exact .inl h1
    · exact .inr h1

theorem Tr.bsAny {n : Nat} (tr : Tr C call ops n0 hs es vs bs 0 n) (b0 : bs 0 = []) (f : Nat × Nat × Nat × V → Bool) : ∀ j, j ≤ n → ((bs j).any f = true ↔ ∃ i o, i < j ∧ ops[i]? = some o ∧ f (i, (hs i).next, (hs (i + 1)).next, ptrOf C (es i) o.op) = true)
  | 0, _ => by rw [b0]; simp
  | j + 1, hj => by
    obtain ⟨o, ho, _, _, _, hb⟩ := tr j (Nat.zero_le _) (by omega)
    rw [hb, List.any_cons, Bool.or_eq_true, tr.bsAny b0 f j (by omega)]
    constructor
    · rintro (h | ⟨i, o', h1, h2, h3⟩)
      · exact ⟨j, o, Nat.lt_succ_self j, ho, h⟩
      · exact ⟨i, o', by omega, h2, h3⟩
    · rintro ⟨i, o', h1, h2, h3⟩
      by_cases e : i = j
      · subst e
        rw [ho] at h2; injection h2 with h2; subst h2
        exact .inl h3
      · exact .inr ⟨i, o', by omega, h2, h3⟩

theorem visP_of {n : Nat} (tr : Tr C call ops (hs 0).next hs es vs bs 0 n) (b0 : bs 0 = []) {j l : Nat} (hj : j ≤ n) (h : vis ops (hs 0).next (bs j) j l = true) : visP ops hs j l := by
  unfold vis at h
  rw [Bool.or_eq_true, tr.bsAny b0 _ j hj] at h
  rcases h with hl | ⟨i, o', h1, h2, h3⟩
  · exact .inl (of_decide_eq_true hl)
  · simp only [Bool.and_eq_true, decide_eq_true_eq] at h3
    exact .inr ⟨i, h3.2, h1, h3.1⟩

theorem vis_of {n : Nat} (tr : Tr C call ops (hs 0).next hs es vs bs 0 n) (b0 : bs 0 = []) {j l : Nat} (hj : j ≤ n) (h : visP ops hs j l) : vis ops (hs 0).next (bs j) j l = true := by
  unfold vis
  rw [Bool.or_eq_true, tr.bsAny b0 _ j hj]
  rcases h with hl | ⟨i, h1, h2, h3⟩
  · exact .inl (decide_eq_true hl)
  · obtain ⟨o, ho, _⟩ := tr i (Nat.zero_le _) (by omega)
    exact .inr ⟨i, o, h2, ho, by simp only [Bool.and_eq_true, decide_eq_true_eq]; exact ⟨h3, h1⟩⟩

theorem vs_of (od : Ord ops) {n : Nat} (tr : Tr C call ops (hs 0).next hs es vs bs 0 n) (b0 : bs 0 = []) {i : Nat} (hi : i < n) (hfl : (hs i).floor = (hs 0).floor) (bnd : ∀ l B, (hs i).blk l = some B → l < (hs i).next) : VS C ops hs es i := by
  obtain ⟨o, ho, _, hst, _, _⟩ := tr i (Nat.zero_le _) hi
  unfold stepD at hst
  cases hT : isT C ops i with
  | true =>
    rw [hT, if_pos rfl] at hst
    unfold trun at hst
    cases hg : guarded C call ops (es i) o ⟨fun l => if vis ops (hs 0).next (bs i) i l then (hs i).blk l else none, (hs i).next, (hs i).floor⟩ with
    | none => rw [hg] at hst; cases hst
    | some x =>
      rw [hg] at hst
      simp only [Option.bind_some, Option.some.injEq, Prod.mk.injEq] at hst
      obtain ⟨_, hst⟩ := hst
      have e : ∀ l, l < (hs i).next → (hs (i + 1)).blk l = if vis ops (hs 0).next (bs i) i l && decide ((hs i).floor ≤ l) && ((hs i).blk l).isSome then x.2.blk l else (hs i).blk l := fun l hl => by
        rw [← hst]; show (if l < (hs i).next then _ else _) = _; rw [if_pos hl]
      have key : ∀ l, l < (hs i).next → (hs (i + 1)).blk l ≠ (hs i).blk l → vis ops (hs 0).next (bs i) i l = true ∧ (hs i).floor ≤ l ∧ ∃ B, (hs i).blk l = some B := fun l hl h => by
        rw [e l hl] at h
        split at h
        · rename_i hc
          simp only [Bool.and_eq_true, decide_eq_true_eq, Option.isSome_iff_exists] at hc
          exact ⟨hc.1.1, hc.1.2, hc.2⟩
        · exact absurd rfl h
      refine ⟨by rw [← hst], fun l hl h => ?_, fun l hl h => ?_, fun l hl h => (key l hl h).2.1⟩
      · obtain ⟨h1, h2, h3⟩ := key l hl h
        exact .inr ⟨hT, by rw [← hfl]; exact h2, visP_of tr b0 (Nat.le_of_lt hi) h1, h3⟩
      · rw [e l hl] at h
        split at h
        · rename_i hc
          simp only [Bool.and_eq_true, decide_eq_true_eq, Option.isSome_iff_exists] at hc
          exact hc.2
        · exact h
  | false =>
  have one : ∀ l, hitS C ops hs es l i → isS o.op = true := fun l h => by
    rcases h with ⟨o', h1, h2, _⟩ | ⟨h1, _⟩
    · rw [ho] at h1; injection h1 with h1; subst h1; exact h2
    · rw [hT] at h1; cases h1
  rw [hT, if_neg (by simp)] at hst
  cases hq : isQ o.op with
  | true =>
    rw [hq, if_pos rfl] at hst
    unfold qrun at hst
    cases hg : guarded C call ops (es i) o ⟨fun l => if vis ops (hs 0).next (bs i) i l then (hs i).blk l else none, (hs i).next, (hs i).next⟩ with
    | none => rw [hg] at hst; cases hst
    | some x =>
      rw [hg] at hst
      simp only [Option.bind_some, Option.some.injEq, Prod.mk.injEq] at hst
      obtain ⟨_, hst⟩ := hst
      have e : ∀ l, l < (hs i).next → (hs (i + 1)).blk l = (hs i).blk l := fun l hl => by rw [← hst]; show (if l < (hs i).next then _ else _) = _; rw [if_pos hl]
      refine ⟨by rw [← hst], fun l hl h => absurd (e l hl) h, fun l hl h => by rwa [e l hl] at h, fun l hl h => ?_⟩
      exact absurd (e l ‹_›) ‹_›
  | false =>
    rw [hq, if_neg (by simp)] at hst
    cases hm : memConv C.P o.op with
    | true => rw [hm, if_pos rfl] at hst; cases hst
    | false =>
    rw [hm, if_neg (by simp)] at hst
    obtain ⟨H2', _, lo⟩ := local_guarded (H2 := hs i) hq (od.ok i o ho) hm hst rfl (fun _ => rfl) (fun _ _ _ _ _ => rfl) bnd
    exact ⟨lo.floor, fun l hl h => by obtain ⟨h1, h2⟩ := lo.chg l hl h; exact .inl ⟨o, ho, h1, h2⟩, lo.keep, fun l hl h => by
      obtain ⟨h1, a, f, h2⟩ := lo.chg l hl h
      rcases lo.low l a f h1 h2 with h3 | h3
      · exact h3.1
      · rw [h3.1] at h; exact absurd rfl h⟩
end
end Go.Fv

/-! A region whose order is open: one operation, wherever it stands in the order. -/
namespace Go.Fv
open Go

theorem BlkAt.move {σ : Nat → Addr} {K K' : Ctx} {w w' : World} {l : Nat} {B : Blk} (h : BlkAt σ K w l B) (mv : Moves K K' w w') (hh : w'.heap[(K.ρ l).1]? = w.heap[(K.ρ l).1]?) (hI : ¬ K'.I (K.ρ l).1) : BlkAt σ K' w' l B := by
  have hρ := mv.ρ l h.lt
  obtain ⟨cs, e, h1, h2, h3⟩ := h.at_
  refine ⟨mv.D l h.lt, by rw [hρ]; exact h.sz, by rw [hρ]; exact hI, h.rows, cs, e, by rw [hρ]; exact h1.same hh, by rw [hρ]; exact h2, fun i r j c hi hj => ?_⟩
  obtain ⟨q1, x, q2, q3⟩ := h3 i r j c hi hj
  exact ⟨q1, x, by rw [hρ]; exact q2, q3.mono mv⟩

theorem BlkAt.lt_size {σ : Nat → Addr} {K : Ctx} {w : World} {l : Nat} {B : Blk} (h : BlkAt σ K w l B) : (K.ρ l).1 < w.heap.size := by
  obtain ⟨cs, e, h1, _⟩ := h.at_
  exact h1.lt

section
variable {C : Cfg} {σ : Nat → Addr} {call : FuncId → List V → M V} {ops : Array Oper} {hs : Nat → Heap} {es : Nat → Env} {vs : Nat → V} {bs : Nat → List (Nat × Nat × Nat × V)} {N : Nat} {K0 : Ctx} {w0 : World}

/-- Where a run stands that has done the operations 'S'. -/
structure St (C : Cfg) (σ : Nat → Addr) (ops : Array Oper) (hs : Nat → Heap) (es : Nat → Env) (N : Nat) (K0 : Ctx) (w0 : World) (S : Nat → Prop) (I : Nat → Prop) (ρ : Nat → Nat × Nat × Nat) (a : Act) (w : World) : Prop where
  clo : ∀ j, S j → j < ops.size ∧ ∀ i, bef ops j i = true → S i
  slot : ∀ t k, Last S (wr ops t) k → Rel σ ⟨I, ρ, 0, dset K0 ops.size hs (Aof ops k)⟩ w (es k t) (a.tmps.getD t Go.undef)
  blk : ∀ l k B, Last S (hit C ops hs es l) k → dset K0 ops.size hs S l → (hs k).blk l = some B → BlkAt σ ⟨I, ρ, 0, dset K0 ops.size hs fun i => ∃ j, S j ∧ hit C ops hs es l j ∧ upto ops j i⟩ w l B
  inj : ∀ l l' k k' B B', Last S (hit C ops hs es l) k → Last S (hit C ops hs es l') k' → dset K0 ops.size hs S l → dset K0 ops.size hs S l' → (hs k).blk l = some B → (hs k').blk l' = some B' → (ρ l).1 = (ρ l').1 → l = l'
  imm : ∀ b, I b → b < w.heap.size
  I0 : ∀ b, K0.I b → I b
  newI : ∀ b, I b → b < w0.heap.size → K0.I b
  ρ0 : ∀ l, K0.D l → ρ l = K0.ρ l
  fresh : ∀ l k B, ¬ K0.D l → Last S (hit C ops hs es l) k → dset K0 ops.size hs S l → (hs k).blk l = some B → w0.heap.size ≤ (ρ l).1 ∨ ∃ l0 B0, (hs 0).blk l0 = some B0 ∧ (hs 0).floor ≤ l0 ∧ (K0.ρ l0).1 = (ρ l).1
  gl : GlobOk C σ ⟨I, ρ, 0, fun _ => False⟩ w
  tgt : ∀ i l, S i → hitS C ops hs es l i → dset K0 ops.size hs (fun k => bef ops i k = true) l
  frame : ∀ (b : Nat), b < w0.heap.size → (∀ l B, (hs 0).blk l = some B → (hs 0).floor ≤ l → (K0.ρ l).1 ≠ b) → w.heap[b]? = w0.heap[b]?
  shape : ∀ (b : Nat) (cs : Array Value) (e : TypeId) (f : Nat × Nat), w0.heap[b]? = some (Obj.cells cs e f) → ∃ cs' f', w.heap[b]? = some (Obj.cells cs' e f') ∧ cs'.size = cs.size
  size : w0.heap.size ≤ w.heap.size
  os : w.os = w0.os
  tape : w.tape = w0.tape
  output : w.output = w0.output
  tsz : N ≤ a.tmps.size
  dfr : a.defers = []

/-- The facts of the run in the order of the text, as far as they are known. -/
structure Base (C : Cfg) (σ : Nat → Addr) (call : FuncId → List V → M V) (ops : Array Oper) (hs : Nat → Heap) (es : Nat → Env) (vs : Nat → V) (bs : Nat → List (Nat × Nat × Nat × V)) (N : Nat) (K0 : Ctx) (w0 : World) : Prop where
  od : Ord ops
  tr : Tr C call ops (hs 0).next hs es vs bs 0 ops.size
  b0 : bs 0 = []
  inv0 : Inv σ K0 (hs 0) w0
  hN : ∀ d ∈ dsts ops, d < N

theorem Base.floor (ba : Base C σ call ops hs es vs bs N K0 w0) {m : Nat} (fa : Fa hs m) : ∀ j, j ≤ m → j ≤ ops.size → (hs j).floor = (hs 0).floor
  | 0, _, _ => rfl
  | j + 1, h1, h2 => (vs_of ba.od ba.tr ba.b0 (i := j) (by omega) (ba.floor fa j (by omega) (by omega)) (fa.bnd j (by omega))).floor.trans (ba.floor fa j (by omega) (by omega))

theorem Base.vsAt (ba : Base C σ call ops hs es vs bs N K0 w0) {m i : Nat} (fa : Fa hs m) (hi : i < ops.size) (him : i ≤ m) : VS C ops hs es i := vs_of ba.od ba.tr ba.b0 hi (ba.floor fa i him (by omega)) (fa.bnd i him)

theorem Base.back (ba : Base C σ call ops hs es vs bs N K0 w0) {m : Nat} (fa : Fa hs m) {l : Nat} (hl : l < (hs 0).next) : ∀ j, j ≤ m → j ≤ ops.size → (∃ B, (hs j).blk l = some B) → ∃ B, (hs 0).blk l = some B
  | 0, _, _, h => h
  | j + 1, h1, h2, h => ba.back fa hl j (by omega) (by omega) ((ba.vsAt fa (i := j) (by omega) (by omega)).keep l (Nat.lt_of_lt_of_le hl (fa.mono (Nat.zero_le j) (by omega))) h)

theorem Base.unch (ba : Base C σ call ops hs es vs bs N K0 w0) {m : Nat} (fa : Fa hs m) {l k : Nat} : ∀ j, k ≤ j → j ≤ m → j ≤ ops.size → (∀ i, k ≤ i → i < j → ¬ hit C ops hs es l i) → (hs j).blk l = (hs k).blk l
  | 0, h, _, _, _ => by have : k = 0 := by omega
                        subst this; rfl
  | j + 1, h, h1, h2, hn => by
    rcases Nat.lt_or_ge j k with g | g
    · have : k = j + 1 := by omega
      subst this; rfl
    · rw [← ba.unch fa j g (by omega) (by omega) fun i hi hj => hn i hi (by omega)]
      have nh := hn j g (Nat.lt_succ_self j)
      have hv := ba.vsAt fa (i := j) (by omega) (by omega)
      rcases Nat.lt_or_ge l (hs j).next with q | q
      · exact Classical.byContradiction fun hc => nh ⟨by omega, .inr (hv.chg l q hc)⟩
      · have e1 : (hs j).blk l = none := by
          cases hb : (hs j).blk l with
          | none => rfl
          | some B => have := fa.bnd j (by omega) l B hb; omega
        rw [e1]
        cases hb : (hs (j + 1)).blk l with
        | none => rfl
        | some B => exact absurd ⟨by omega, .inl ⟨q, fa.bnd (j + 1) (by omega) l B hb⟩⟩ nh

theorem Base.esame (ba : Base C σ call ops hs es vs bs N K0 w0) {t k : Nat} : ∀ j, k ≤ j → j ≤ ops.size → (∀ i, k ≤ i → i < j → ¬ wr ops t i) → es j t = es k t
  | 0, h, _, _ => by have : k = 0 := by omega
                     subst this; rfl
  | j + 1, h, h2, hn => by
    rcases Nat.lt_or_ge j k with g | g
    · have : k = j + 1 := by omega
      subst this; rfl
    · rw [← ba.esame j g (by omega) fun i hi hj => hn i hi (by omega)]
      obtain ⟨o, ho, _, _, he, _⟩ := ba.tr j (Nat.zero_le _) (by omega)
      rw [he]
      have nw := hn j g (Nat.lt_succ_self j)
      cases hd : o.dst with
      | none => rfl
      | some d =>
        show (if t = d then vs j else es j t) = _
        rw [if_neg fun (e : t = d) => nw ⟨o, ho, by rw [hd, e]⟩]

theorem dset_lt {K0 : Ctx} {n m j : Nat} {A : Nat → Prop} (fa : Fa hs m) (hj : j ≤ m) (h0 : ∀ l, K0.D l → l < (hs 0).next) (hA : ∀ i, A i → i < j) {l : Nat} (h : dset K0 n hs A l) : l < (hs j).next := by
  rcases h with h | ⟨i, _, h1, h2⟩
  · exact Nat.lt_of_lt_of_le (h0 l h) (fa.mono (Nat.zero_le j) hj)
  · exact Nat.lt_of_lt_of_le h2.2 (fa.mono (hA i h1) hj)

theorem Base.D0 (ba : Base C σ call ops hs es vs bs N K0 w0) (l : Nat) (h : K0.D l) : l < (hs 0).next := by
  have := ba.inv0.dom l h
  rwa [ba.inv0.nx] at this

/-- The operation 'j', done where it stands: what the run is then. -/
theorem advance (ba : Base C σ call ops hs es vs bs N K0 w0) {m : Nat} (fa : Fa hs m) {S : Nat → Prop} (hSm : ∀ i, S i → i < m) {I : Nat → Prop} {ρ : Nat → Nat × Nat × Nat} {a : Act} {w : World} (st : St C σ ops hs es N K0 w0 S I ρ a w)
    {j : Nat} (hjm : j ≤ m) (hjn : j < ops.size) (hj : ¬ S j) (hb : ∀ i, bef ops j i = true → S i) {o : Oper} (ho : ops[j]? = some o)
    {Hj Hr : Heap} {x : Value} {w' : World} (inv : Inv σ ⟨I, ρ, (hs j).next, dset K0 ops.size hs fun i => bef ops j i = true⟩ Hj w)
    (ld : Leads C σ ⟨I, ρ, (hs j).next, dset K0 ops.size hs fun i => bef ops j i = true⟩ Hj w (vs j) Hr x w')
    (hn : Hr.next = (hs (j + 1)).next) (hnew : ∀ l, born hs l j → Hr.blk l = (hs (j + 1)).blk l)
    (hout : ∀ l, (hs (j + 1)).next ≤ l → (hs (j + 1)).blk l = Hr.blk l ∨ (hs (j + 1)).blk l = (hs j).blk l)
    (htgt : ∀ l, hitS C ops hs es l j → Hr.blk l = (hs (j + 1)).blk l ∧ dset K0 ops.size hs (fun k => bef ops j k = true) l)
    (hown : ∀ l B, Hj.blk l = some B → Hj.floor ≤ l → hitS C ops hs es l j ∧ (hs 0).floor ≤ l ∧ ∃ B0, (hs j).blk l = some B0)
    (sy : ∀ l, hitS C ops hs es l j → ∃ k, k ≤ j ∧ Last S (hit C ops hs es l) k ∧ (hs j).blk l = (hs k).blk l ∧ ∀ i, S i → hit C ops hs es l i → bef ops j i = true) :
    ((hs j).next ≤ (hs (j + 1)).next ∧ ∀ l B, (hs (j + 1)).blk l = some B → l < (hs (j + 1)).next) ∧ ∃ I' ρ', St C σ ops hs es N K0 w0 (fun i => S i ∨ i = j) I' ρ' (a.put o.dst x) w' := by
  obtain ⟨K', r1, r2, r3⟩ := ld
  have hv := ba.vsAt fa hjn hjm
  have hle : (hs j).next ≤ (hs (j + 1)).next := by
    have h1 := r3.nx; have h2 := r2.nx
    rw [h2, hn] at h1; exact h1
  have hbnd : ∀ l B, (hs (j + 1)).blk l = some B → l < (hs (j + 1)).next := fun l B h => by
    rcases Nat.lt_or_ge l (hs (j + 1)).next with g | g
    · exact g
    · rcases hout l g with q | q
      · rw [q] at h
        have := r2.dom l (r2.blk l B h).lt
        rw [r2.nx, hn] at this; exact this
      · rw [q] at h
        exact Nat.lt_of_lt_of_le (fa.bnd j hjm l B h) hle
  refine ⟨⟨hle, hbnd⟩, K'.I, fun l => if (hs j).next ≤ l ∧ l < (hs (j + 1)).next then K'.ρ l else ρ l, ?_⟩
  have hjS : ∀ i, S i → i ≠ j := fun i hi e => hj (e ▸ hi)
  -- the names of the blocks
  have ρold : ∀ l, dset K0 ops.size hs S l → (if (hs j).next ≤ l ∧ l < (hs (j + 1)).next then K'.ρ l else ρ l) = ρ l := fun l h => by
    rw [if_neg]
    rintro ⟨h1, h2⟩
    rcases h with h | ⟨i, _, hi, h3, h4⟩
    · have := ba.D0 l h
      have := fa.mono (Nat.zero_le j) hjm
      omega
    · rcases Nat.lt_trichotomy i j with g | g | g
      · have := fa.mono (i := i + 1) (k := j) g hjm
        omega
      · exact hjS i hi g
      · have := fa.mono (i := j + 1) (k := i) g (Nat.le_of_lt (hSm i hi))
        omega
  have dlow : ∀ l, dset K0 ops.size hs (fun i => bef ops j i = true) l → l < (hs j).next := fun l h => dset_lt fa hjm ba.D0 (fun i hi => bef_lt ba.od j i hi) h
  have dS : ∀ l, dset K0 ops.size hs (fun i => bef ops j i = true) l → dset K0 ops.size hs S l := fun l h => dset_mono (fun i hi => hb i hi) h
  have K'new : ∀ l, K'.D l → dset K0 ops.size hs (fun i => bef ops j i = true) l ∨ born hs l j := fun l h => by
    rcases Nat.lt_or_ge l (hs j).next with g | g
    · exact .inl (r3.newD l h g)
    · refine .inr ⟨g, ?_⟩
      have := r2.dom l h
      rw [r2.nx, hn] at this; exact this
  have ρnew : ∀ l, K'.D l → (if (hs j).next ≤ l ∧ l < (hs (j + 1)).next then K'.ρ l else ρ l) = K'.ρ l := fun l h => by
    rcases K'new l h with h1 | h1
    · rw [ρold l (dS l h1)]; exact (r3.ρ l h1).symm
    · rw [if_pos ⟨h1.1, h1.2⟩]
  have mvS : ∀ (A A' : Nat → Prop), (∀ i, A i → S i) → (∀ i, A i → A' i) → Moves ⟨I, ρ, 0, dset K0 ops.size hs A⟩ ⟨K'.I, fun l => if (hs j).next ≤ l ∧ l < (hs (j + 1)).next then K'.ρ l else ρ l, 0, dset K0 ops.size hs A'⟩ w w' := fun A A' hA hAA =>
    ⟨r3.I, fun l h => ρold l (dset_mono hA h), fun l h => dset_mono hAA h, (inv.moves r3).same, r3.shape⟩
  have mvJ : ∀ (A' : Nat → Prop), (∀ i, upto ops j i → A' i) → Moves K' ⟨K'.I, fun l => if (hs j).next ≤ l ∧ l < (hs (j + 1)).next then K'.ρ l else ρ l, 0, dset K0 ops.size hs A'⟩ w' w' := fun A' hA =>
    ⟨fun _ h => h, ρnew, fun l h => (K'new l h).elim (fun h => dset_mono (fun i hi => hA i (.inr hi)) h) (fun h => .inr ⟨j, hjn, hA j (.inl rfl), h⟩), fun _ _ => rfl, fun b cs e f h => ⟨cs, f, h, rfl⟩⟩
  -- the last hit, if this operation hits
  have lastJ : ∀ l k, Last (fun i => S i ∨ i = j) (hit C ops hs es l) k → hit C ops hs es l j → k = j + 1 := fun l k hL hh => by
    have h1 := hL.2 j (.inr rfl) hh
    rcases hL.1 with h0 | ⟨h2, h3⟩
    · omega
    · rcases h2 with h2 | h2
      · exfalso
        have hne := hjS _ h2
        have hgt : j < k - 1 := by omega
        have hlt := hSm _ h2
        rcases hh.2 with hbo | hst
        · rcases h3.2 with h4 | h4
          · exact hne (fa.born_uniq hlt (by omega) h4 hbo)
          · rcases st.tgt _ l h2 h4 with h5 | ⟨i, _, h5, h6⟩
            · have := ba.D0 l h5
              have := fa.mono (Nat.zero_le j) hjm
              have := hbo.1
              omega
            · have hi : i < k - 1 := bef_lt ba.od _ _ h5
              have := fa.born_uniq (by omega) (by omega) h6 hbo
              subst this
              exact hj ((st.clo _ h2).2 _ h5)
        · obtain ⟨k1, _, hL1, _, hall⟩ := sy l hst
          have := bef_lt ba.od _ _ (hall _ h2 h3)
          omega
      · omega
  -- blocks born here are new
  have fresh' : ∀ l B, born hs l j → Hr.blk l = some B → w.heap.size ≤ (K'.ρ l).1 ∨ ∃ l0 B0, Hj.blk l0 = some B0 ∧ Hj.floor ≤ l0 ∧ (ρ l0).1 = (K'.ρ l).1 ∧ Hr.blk l0 = none := fun l B hbo hB => by
    rcases Nat.lt_or_ge (K'.ρ l).1 w.heap.size with g | g
    · obtain ⟨l0, B0, h0, h1, h2⟩ := r3.range l B hB g
      have hD0 := (inv.blk l0 B0 h0).lt
      have hl0 : l0 < (hs j).next := by have := inv.dom l0 hD0; exact this
      have := hbo.1
      rcases h2 with rfl | h2
      · omega
      · refine .inr ⟨l0, B0, h0, h2, h1, ?_⟩
        cases hr : Hr.blk l0 with
        | none => rfl
        | some B' =>
          have h4 : (K'.ρ l0).1 = (K'.ρ l).1 := by rw [r3.ρ l0 hD0]; exact h1
          have := r2.inj l0 l B' B hr hB h4
          omega
    · exact .inl g
  -- who takes the place of a block that was given up
  have taken : ∀ l l' B k1' k' B' B2, born hs l j → Hr.blk l = some B → Last (fun i => S i ∨ i = j) (hit C ops hs es l') k1' → (hs k1').blk l' = some B2 → Last S (hit C ops hs es l') k' → dset K0 ops.size hs S l' → (hs k').blk l' = some B' → (K'.ρ l).1 = (ρ l').1 → False := fun l l' B k1' k' B' B2 hbo hB hL1 hB2 hL' hd' hB' he => by
    rcases fresh' l B hbo hB with h | ⟨l0, B0, h1, h2, h3, h4⟩
    · have h2 : (ρ l').1 < w.heap.size := (st.blk l' k' B' hL' hd' hB').lt_size
      have e : (ρ l').1 = (K'.ρ l).1 := he.symm
      omega
    · obtain ⟨q1, _, B00, q2⟩ := hown l0 B0 h1 h2
      obtain ⟨k0, _, q3, q4, _⟩ := sy l0 q1
      have := st.inj l0 l' k0 k' B00 B' q3 hL' (dS l0 (htgt l0 q1).2) hd' (by rw [← q4]; exact q2) hB' (h3.trans he)
      subst this
      have := lastJ l0 k1' hL1 ⟨hjn, .inr q1⟩
      subst this
      rw [← (htgt l0 q1).1, h4] at hB2
      cases hB2
  have lastO : ∀ l k, Last (fun i => S i ∨ i = j) (hit C ops hs es l) k → ¬ hit C ops hs es l j → Last S (hit C ops hs es l) k := fun l k hL hh => by
    refine ⟨hL.1.imp id fun ⟨h1, h2⟩ => ⟨h1.resolve_right fun e => hh (e ▸ h2), h2⟩, fun i hi => hL.2 i (.inl hi)⟩
  have dsO : ∀ l, dset K0 ops.size hs (fun i => S i ∨ i = j) l → ¬ hit C ops hs es l j → dset K0 ops.size hs S l := fun l h hh => by
    rcases h with h | ⟨i, h0, h1, h2⟩
    · exact .inl h
    · refine .inr ⟨i, h0, h1.resolve_right fun e => hh ?_, h2⟩
      subst e; exact ⟨h0, .inl h2⟩
  -- what lay there before
  have oldS : ∀ l B, hitS C ops hs es l j → (hs (j + 1)).blk l = some B → ∃ k B0, Last S (hit C ops hs es l) k ∧ (hs k).blk l = some B0 := fun l B hh hB => by
    obtain ⟨h1, h2⟩ := htgt l hh
    obtain ⟨B0, h3⟩ := hv.keep l (dlow l h2) ⟨B, hB⟩
    obtain ⟨k, _, h4, h5, _⟩ := sy l hh
    exact ⟨k, B0, h4, by rw [← h5]; exact h3⟩
  have hrOf : ∀ l k B, Last (fun i => S i ∨ i = j) (hit C ops hs es l) k → hit C ops hs es l j → (hs k).blk l = some B → Hr.blk l = some B ∧ (hs (j + 1)).blk l = some B := fun l k B hL hh hB => by
    have := lastJ l k hL hh
    subst this
    refine ⟨?_, hB⟩
    rcases hh.2 with h | h
    · rw [hnew l h]; exact hB
    · rw [(htgt l h).1]; exact hB
  exact {
    clo := fun i hi => by
      rcases hi with hi | rfl
      · exact ⟨(st.clo i hi).1, fun k hk => .inl ((st.clo i hi).2 k hk)⟩
      · exact ⟨hjn, fun k hk => .inl (hb k hk)⟩
    slot := fun t k hL => by
      by_cases hw : wr ops t j
      · have hk : k = j + 1 := by
          have h1 := hL.2 j (.inr rfl) hw
          rcases hL.1 with h0 | ⟨h2, o', h3, h4⟩
          · omega
          · rcases h2 with h2 | h2
            · exfalso
              have hgt : j < k - 1 := by have := hjS _ h2; omega
              refine hj ((st.clo _ h2).2 j (ba.od.clash j (k - 1) o o' hgt ho h3 ?_))
              obtain ⟨o2, h5, h6⟩ := hw
              rw [ho] at h5; injection h5 with h5; subst h5
              unfold clash
              rw [h4, h6]
              simp [touches, h4]
            · omega
        subst hk
        obtain ⟨o2, h5, h6⟩ := hw
        rw [ho] at h5; injection h5 with h5; subst h5
        obtain ⟨o3, h7, _, _, he, _⟩ := ba.tr j (Nat.zero_le _) hjn
        rw [ho] at h7; injection h7 with h7; subst h7
        have e1 : es (j + 1) t = vs j := by rw [he, h6]; show (if t = t then _ else _) = _; rw [if_pos rfl]
        have ht : t < a.tmps.size := Nat.lt_of_lt_of_le (ba.hN t (mem_dsts (Array.mem_toList_iff.2 (Array.mem_of_getElem? ho)) h6)) st.tsz
        have e2 : (a.put o.dst x).tmps.getD t Go.undef = x := by rw [h6]; simp [Act.put, ht]
        rw [e1, e2]
        exact r1.mono (mvJ _ fun i hi => ⟨Nat.succ_ne_zero j, hi⟩)
      · have hL' : Last S (wr ops t) k := ⟨hL.1.imp id fun ⟨h1, h2⟩ => ⟨h1.resolve_right fun e => hw (e ▸ h2), h2⟩, fun i hi => hL.2 i (.inl hi)⟩
        have e2 : (a.put o.dst x).tmps.getD t Go.undef = a.tmps.getD t Go.undef := by
          cases hd : o.dst with
          | none => rfl
          | some d =>
            have hne : d ≠ t := fun e => hw ⟨o, ho, by rw [hd, e]⟩
            simp only [Act.put, Array.getD_eq_getD_getElem?]
            rw [Array.getElem?_setIfInBounds_ne hne]
        rw [e2]
        refine (st.slot t k hL').mono (mvS _ _ (fun i hi => ?_) fun _ h => h)
        obtain ⟨h1, h2⟩ := hi
        rcases hL'.1 with h0 | ⟨h3, _⟩
        · exact absurd h0 h1
        · rcases h2 with rfl | h2
          · exact h3
          · exact (st.clo _ h3).2 _ h2
    blk := fun l k B hL hd hB => by
      by_cases hh : hit C ops hs es l j
      · obtain ⟨h1, _⟩ := hrOf l k B hL hh hB
        have hbl := r2.blk l B h1
        exact hbl.move (mvJ _ fun i hi => ⟨j, .inr rfl, hh, hi⟩) rfl hbl.own
      · have hL' := lastO l k hL hh
        have hd' := dsO l hd hh
        have hbl := st.blk l k B hL' hd' hB
        have hsame : w'.heap[(ρ l).1]? = w.heap[(ρ l).1]? := r3.frame _ hbl.lt_size fun l2 B2 h2 h3 he => by
          obtain ⟨q1, _, B0, q2⟩ := hown l2 B2 h2 h3
          obtain ⟨k2, _, q3, q4, _⟩ := sy l2 q1
          have := st.inj l2 l k2 k B0 B q3 hL' (dS l2 (htgt l2 q1).2) hd' (by rw [← q4]; exact q2) hB he
          subst this
          exact hh ⟨hjn, .inr q1⟩
        refine hbl.move (mvS _ _ (fun i ⟨i', h1, _, h3⟩ => ?_) fun i ⟨i', h1, h2, h3⟩ => ⟨i', .inl h1, h2, h3⟩) hsame ?_
        · rcases h3 with rfl | h3
          · exact h1
          · exact (st.clo _ h1).2 _ h3
        · intro hI
          exact hbl.own (r3.newI _ hI hbl.lt_size)
    inj := fun l l' k k' B B' hL hL' hd hd' hB hB' he => by
      have one : ∀ l k B, Last (fun i => S i ∨ i = j) (hit C ops hs es l) k → dset K0 ops.size hs (fun i => S i ∨ i = j) l → (hs k).blk l = some B →
          (born hs l j ∧ Hr.blk l = some B) ∨ (∃ k0 B0, Last S (hit C ops hs es l) k0 ∧ dset K0 ops.size hs S l ∧ (hs k0).blk l = some B0) := fun l k B hL hd hB => by
        by_cases hh : hit C ops hs es l j
        · obtain ⟨h1, h2⟩ := hrOf l k B hL hh hB
          rcases hh.2 with h | h
          · exact .inl ⟨h, h1⟩
          · obtain ⟨k0, B0, h3, h4⟩ := oldS l B h h2
            exact .inr ⟨k0, B0, h3, dS l (htgt l h).2, h4⟩
        · exact .inr ⟨k, B, lastO l k hL hh, dsO l hd hh, hB⟩
      have low : ∀ l k0 B0, Last S (hit C ops hs es l) k0 → dset K0 ops.size hs S l → (hs k0).blk l = some B0 → (ρ l).1 < w.heap.size := fun l k0 B0 h1 h2 h3 => (st.blk l k0 B0 h1 h2 h3).lt_size
      have he' : (if (hs j).next ≤ l ∧ l < (hs (j + 1)).next then K'.ρ l else ρ l).1 = (if (hs j).next ≤ l' ∧ l' < (hs (j + 1)).next then K'.ρ l' else ρ l').1 := he
      rcases one l k B hL hd hB with ⟨h1, h2⟩ | ⟨k1, B1, h1, h2, h3⟩ <;> rcases one l' k' B' hL' hd' hB' with ⟨g1, g2⟩ | ⟨k2, B2, g1, g2, g3⟩
      · rw [if_pos ⟨h1.1, h1.2⟩, if_pos ⟨g1.1, g1.2⟩] at he'
        exact r2.inj l l' B B' h2 g2 he'
      · rw [if_pos ⟨h1.1, h1.2⟩, ρold l' g2] at he'
        exact (taken l l' B k' k2 B2 B' h1 h2 hL' hB' g1 g2 g3 he').elim
      · rw [ρold l h2, if_pos ⟨g1.1, g1.2⟩] at he'
        exact (taken l' l B' k k1 B1 B g1 g2 hL hB h1 h2 h3 he'.symm).elim
      · rw [ρold l h2, ρold l' g2] at he'
        exact st.inj l l' k1 k2 B1 B2 h1 g1 h2 g2 h3 g3 he'
    imm := r2.imm
    I0 := fun b h => r3.I b (st.I0 b h)
    newI := fun b h hlt => st.newI b (r3.newI b h (Nat.lt_of_lt_of_le hlt st.size)) hlt
    ρ0 := fun l h => (ρold l (.inl h)).trans (st.ρ0 l h)
    fresh := fun l k B hn0 hL hd hB => by
      by_cases hh : hit C ops hs es l j
      · obtain ⟨h1, h2⟩ := hrOf l k B hL hh hB
        rcases hh.2 with h | h
        · show _ ≤ (if (hs j).next ≤ l ∧ l < (hs (j + 1)).next then K'.ρ l else ρ l).1 ∨ ∃ l0 B0, _ ∧ _ ∧ _ = (if (hs j).next ≤ l ∧ l < (hs (j + 1)).next then K'.ρ l else ρ l).1
          rw [if_pos ⟨h.1, h.2⟩]
          rcases fresh' l B h h1 with q | ⟨l0, B0, q1, q2, q3, _⟩
          · exact .inl (Nat.le_trans st.size q)
          · obtain ⟨p1, p2, B00, p3⟩ := hown l0 B0 q1 q2
            by_cases h0 : K0.D l0
            · obtain ⟨B0', p4⟩ := ba.back fa (ba.D0 l0 h0) j hjm (Nat.le_of_lt hjn) ⟨B00, p3⟩
              exact .inr ⟨l0, B0', p4, p2, by rw [← st.ρ0 l0 h0]; exact q3⟩
            · obtain ⟨k2, _, p4, p5, _⟩ := sy l0 p1
              have := st.fresh l0 k2 B00 h0 p4 (dS l0 (htgt l0 p1).2) (by rw [← p5]; exact p3)
              rw [q3] at this
              exact this
        · obtain ⟨k0, B0, h3, h4⟩ := oldS l B h h2
          show _ ≤ (if (hs j).next ≤ l ∧ l < (hs (j + 1)).next then K'.ρ l else ρ l).1 ∨ ∃ l0 B0, _ ∧ _ ∧ _ = (if (hs j).next ≤ l ∧ l < (hs (j + 1)).next then K'.ρ l else ρ l).1
          rw [ρold l (dS l (htgt l h).2)]
          exact st.fresh l k0 B0 hn0 h3 (dS l (htgt l h).2) h4
      · show _ ≤ (if (hs j).next ≤ l ∧ l < (hs (j + 1)).next then K'.ρ l else ρ l).1 ∨ ∃ l0 B0, _ ∧ _ ∧ _ = (if (hs j).next ≤ l ∧ l < (hs (j + 1)).next then K'.ρ l else ρ l).1
        rw [ρold l (dsO l hd hh)]
        exact st.fresh l k B hn0 (lastO l k hL hh) (dsO l hd hh) hB
    gl := (st.gl.mono (K' := ⟨K'.I, ρ, 0, fun _ => False⟩) ⟨r3.I, fun _ _ => rfl, fun _ h => h, (inv.moves r3).same, r3.shape⟩).sub fun _ h => h
    tgt := fun i l hi hh => by
      rcases hi with hi | rfl
      · exact st.tgt i l hi hh
      · exact (htgt l hh).2
    frame := fun b hlt hne => (r3.frame b (Nat.lt_of_lt_of_le hlt st.size) fun l2 B2 h2 h3 he => by
      obtain ⟨q1, q2, B0, q3⟩ := hown l2 B2 h2 h3
      have hd := (htgt l2 q1).2
      have he' : (ρ l2).1 = b := he
      by_cases h0 : K0.D l2
      · obtain ⟨B0', q4⟩ := ba.back fa (ba.D0 l2 h0) j hjm (Nat.le_of_lt hjn) ⟨B0, q3⟩
        rw [st.ρ0 l2 h0] at he'
        exact hne l2 B0' q4 q2 he'
      · obtain ⟨k2, _, q4, q5, _⟩ := sy l2 q1
        rcases st.fresh l2 k2 B0 h0 q4 (dS l2 hd) (by rw [← q5]; exact q3) with q6 | ⟨l0, B00, q6, q7, q8⟩
        · omega
        · exact hne l0 B00 q6 q7 (q8.trans he')).trans (st.frame b hlt hne)
    shape := fun b cs e f h => by
      obtain ⟨cs1, f1, h1, s1⟩ := st.shape b cs e f h
      obtain ⟨cs2, f2, h2, s2⟩ := r3.shape b cs1 e f1 h1
      exact ⟨cs2, f2, h2, s2.trans s1⟩
    size := Nat.le_trans st.size r3.size
    os := r3.os.trans st.os
    tape := r3.tape.trans st.tape
    output := r3.output.trans st.output
    tsz := by cases hd : o.dst <;> simp [Act.put] <;> exact st.tsz
    dfr := by cases hd : o.dst <;> simp [Act.put] <;> exact st.dfr }
end
end Go.Fv

/-! A region whose order is open: every order. -/
namespace Go.Fv
open Go

section
variable {C : Cfg} {σ : Nat → Addr} {call : FuncId → List V → M V} {ops : Array Oper} {hs : Nat → Heap} {es : Nat → Env} {vs : Nat → V} {bs : Nat → List (Nat × Nat × Nat × V)} {N : Nat} {K0 : Ctx} {w0 : World}

theorem Base.ptrAt (ba : Base C σ call ops hs es vs bs N K0 w0) {i : Nat} {o : Oper} (ho : ops[i]? = some o) : ∀ j, i < j → j ≤ ops.size → Fv.ptrAt (bs j) i = ptrOf C (es i) o.op
  | 0, h, _ => by omega
  | j + 1, h, hj => by
    obtain ⟨o', ho', _, _, _, hb⟩ := ba.tr j (Nat.zero_le _) (by omega)
    rw [hb]
    unfold Fv.ptrAt
    by_cases e : j = i
    · subst e
      rw [ho] at ho'; injection ho' with ho'; subst ho'
      rw [if_pos rfl]
    · rw [if_neg e]
      exact ba.ptrAt ho j (by omega) (by omega)

theorem ev_rel {K : Ctx} {w : World} {env : Env} {a : Act} (gl : GlobOk C σ K w) (T : ∀ t, Rel σ K w (env t) (a.tmps.getD t Go.undef)) (x : Operand) : Rel σ K w (ev C env x) (a.eval x) := by
  cases x with
  | tmp t => exact T t
  | const v => exact rel_cstV v
  | global g =>
    show Rel σ K w (match C.G g with | some row => .iptr row 0 | none => .undef) _
    cases hk : C.G g with
    | none => exact .undef _
    | some row => exact gl.g g row hk
  | func f => exact .fn f [] #[] rfl (fun i a b h => by simp at h)

/-- What the operation 'j' may see of a block, in whatever order. -/
def Seen (C : Cfg) (ops : Array Oper) (hs : Nat → Heap) (es : Nat → Env) (S : Nat → Prop) (j l : Nat) : Prop :=
  ∃ k, k ≤ j ∧ Last S (hit C ops hs es l) k ∧ (hs j).blk l = (hs k).blk l ∧ ∀ i, S i → hit C ops hs es l i → bef ops j i = true

theorem seen_of (ba : Base C σ call ops hs es vs bs N K0 w0) {m : Nat} (fa : Fa hs m) {S : Nat → Prop} (hSm : ∀ i, S i → i < m) (hclo : ∀ j, S j → ∀ i, bef ops j i = true → S i)
    {j : Nat} (hjm : j ≤ m) (hjn : j < ops.size) (hj : ¬ S j) (hb : ∀ i, bef ops j i = true → S i) {l : Nat} (hd : dset K0 ops.size hs (fun i => bef ops j i = true) l)
    (h1 : ∀ i, i < j → hitS C ops hs es l i → bef ops j i = true) (h2 : ∀ i, S i → j < i → hitS C ops hs es l i → bef ops i j = true) : Seen C ops hs es S j l := by
  have hbo : ∀ i, i < m → born hs l i → bef ops j i = true := fun i hi hbi => by
    rcases hd with hd | ⟨i', _, q1, q2⟩
    · have := ba.D0 l hd
      have := fa.mono (Nat.zero_le i) (Nat.le_of_lt hi)
      have := hbi.1
      omega
    · have := bef_lt ba.od _ _ q1
      have := fa.born_uniq hi (by omega) hbi q2
      subst this; exact q1
  obtain ⟨k, k1, k2, _, k4, k5⟩ := sync (S := S) hclo hj hb (hit C ops hs es l) (fun i hi hh => hh.2.elim (fun h => hbo i (by omega) h) (h1 i hi))
    (fun i hS hi hh => hh.2.elim (fun h => by have := bef_lt ba.od _ _ (hbo i (hSm i hS) h); omega) (h2 i hS hi))
  refine ⟨k, k1, k2, ba.unch fa j k1 hjm (Nat.le_of_lt hjn) fun i hi hij hh => ?_, k5⟩
  have := k4 i hij hh
  omega

theorem inv_view (ba : Base C σ call ops hs es vs bs N K0 w0) {m : Nat} (fa : Fa hs m) {S : Nat → Prop} {I : Nat → Prop} {ρ : Nat → Nat × Nat × Nat} {a : Act} {w : World} (st : St C σ ops hs es N K0 w0 S I ρ a w)
    {j : Nat} (hjm : j ≤ m) (hb : ∀ i, bef ops j i = true → S i) {Hj : Heap} (hnx : Hj.next = (hs j).next) (hfl : Hj.floor ≤ Hj.next)
    (hv : ∀ l B, Hj.blk l = some B → (hs j).blk l = some B ∧ dset K0 ops.size hs (fun i => bef ops j i = true) l ∧ Seen C ops hs es S j l) :
    Inv σ ⟨I, ρ, (hs j).next, dset K0 ops.size hs fun i => bef ops j i = true⟩ Hj w := by
  refine ⟨hnx.symm, fun l h => dset_lt fa hjm ba.D0 (fun i hi => bef_lt ba.od j i hi) h, hfl, fun l B h => ?_, fun l l' B B' h h' he => ?_, st.imm⟩
  · obtain ⟨q1, q2, k, _, q3, q4, q5⟩ := hv l B h
    have hbl := st.blk l k B q3 (dset_mono hb q2) (by rw [← q4]; exact q1)
    refine hbl.move ⟨fun _ h => h, fun _ _ => rfl, fun l h => dset_mono (fun i ⟨i', p1, p2, p3⟩ => ?_) h, fun _ _ => rfl, fun b cs e f h => ⟨cs, f, h, rfl⟩⟩ rfl hbl.own
    rcases p3 with rfl | p3
    · exact q5 _ p1 p2
    · exact bef_trans ba.od _ _ _ (q5 _ p1 p2) p3
  · obtain ⟨q1, q2, k, _, q3, q4, _⟩ := hv l B h
    obtain ⟨g1, g2, k', _, g3, g4, _⟩ := hv l' B' h'
    exact st.inj l l' k k' B B' q3 g3 (dset_mono hb q2) (dset_mono hb g2) (by rw [← q4]; exact q1) (by rw [← g4]; exact g1) he

open Classical in
theorem stepAt (good : Good C σ) (SF : ∀ f, SoundF C σ f (call f)) (ba : Base C σ call ops hs es vs bs N K0 w0) {m : Nat} (fa : Fa hs m) {S : Nat → Prop} (hSm : ∀ i, S i → i < m) (hmn : m ≤ ops.size) {I : Nat → Prop} {ρ : Nat → Nat × Nat × Nat} {a : Act} {w : World}
    (st : St C σ ops hs es N K0 w0 S I ρ a w) {j : Nat} (hjm : j ≤ m) (hjn : j < ops.size) (hj : ¬ S j) (hb : ∀ i, bef ops j i = true → S i) {next : Act → World → Prop} {Q : Exit → Act → World → Prop}
    (k : ∀ a' w', ((hs j).next ≤ (hs (j + 1)).next ∧ ∀ l B, (hs (j + 1)).blk l = some B → l < (hs (j + 1)).next) ∧ (∃ I' ρ', St C σ ops hs es N K0 w0 (fun i => S i ∨ i = j) I' ρ' a' w') → next a' w') :
    wpOp C.P ops Q j next a w := by
  obtain ⟨o, ho, hcf, hst, _, _⟩ := ba.tr j (Nat.zero_le _) hjn
  have hclo : ∀ j, S j → ∀ i, bef ops j i = true → S i := fun j hj => (st.clo j hj).2
  have T : ∀ t, Rel σ ⟨I, ρ, (hs j).next, dset K0 ops.size hs fun i => bef ops j i = true⟩ w (mask (touches ops o) (es j) t) (a.tmps.getD t Go.undef) := fun t => by
    unfold mask
    by_cases ht : (touches ops o).contains t = true
    case neg => rw [if_neg ht]; exact .undef _
    rw [if_pos ht]
    obtain ⟨k, k1, k2, k3, k4, _⟩ := sync (S := S) hclo hj hb (wr ops t)
      (fun i hi ⟨o', h1, h2⟩ => ba.od.clash i j o' o hi h1 ho (by unfold clash; rw [h2]; simp only [ht, Bool.or_true, Bool.true_or]))
      (fun i _ hi ⟨o', h1, h2⟩ => ba.od.clash j i o o' hi ho h1 (by unfold clash; rw [h2]; simp only [ht, Bool.or_true]))
    rw [ba.esame j k1 (Nat.le_of_lt hjn) fun i hi hij hw => by have := k4 i hij hw; omega]
    refine (st.slot t k k2).mono ⟨fun _ h => h, fun _ _ => rfl, fun l h => dset_mono (fun i ⟨h1, h2⟩ => ?_) h, fun _ _ => rfl, fun b cs e f h => ⟨cs, f, h, rfl⟩⟩
    have k3 := k3.resolve_left h1
    rcases h2 with rfl | h2
    · exact k3
    · exact bef_trans ba.od _ _ _ k3 h2
  have gl : GlobOk C σ ⟨I, ρ, (hs j).next, dset K0 ops.size hs fun i => bef ops j i = true⟩ w := st.gl.sub fun _ h => h
  have dlow : ∀ l, dset K0 ops.size hs (fun i => bef ops j i = true) l → l < (hs j).next := fun l h => dset_lt fa hjm ba.D0 (fun i hi => bef_lt ba.od j i hi) h
  have cmpL : ∀ i, i < j → isT C ops i = true → (isQ o.op = true ∨ isS o.op = true ∨ isL o.op = true) → bef ops j i = true := fun i hi hT hm => by
    rcases isT_cmp hT ho hm (by omega) with h | h
    · have := bef_lt ba.od _ _ h; omega
    · exact h
  have cmpR : ∀ i, j < i → isT C ops i = true → (isQ o.op = true ∨ isS o.op = true ∨ isL o.op = true) → bef ops i j = true := fun i hi hT hm => by
    rcases isT_cmp hT ho hm (by omega) with h | h
    · exact h
    · have := bef_lt ba.od _ _ h; omega
  have view : isQ o.op = true → ∀ l B, (if vis ops (hs 0).next (bs j) j l then (hs j).blk l else none) = some B → (hs j).blk l = some B ∧ dset K0 ops.size hs (fun i => bef ops j i = true) l ∧ Seen C ops hs es S j l := fun hq l B h => by
    by_cases hvis : vis ops (hs 0).next (bs j) j l = true
    case neg => rw [if_neg hvis] at h; cases h
    rw [if_pos hvis] at h
    have hd : dset K0 ops.size hs (fun i => bef ops j i = true) l := by
      rcases visP_of ba.tr ba.b0 (Nat.le_of_lt hjn) hvis with hl | ⟨i, h1, h2, h3⟩
      · obtain ⟨B0, hB0⟩ := ba.back fa hl j hjm (Nat.le_of_lt hjn) ⟨B, h⟩
        exact .inl (ba.inv0.blk l B0 hB0).lt
      · exact .inr ⟨i, by omega, h1, h3⟩
    refine ⟨h, hd, seen_of ba fa hSm hclo hjm hjn hj hb hd (fun i hi hh => ?_) (fun i _ hi hh => ?_)⟩
    · rcases hh with ⟨o', h1, h2, _⟩ | ⟨hT, _⟩
      · exact ba.od.clash i j o' o hi h1 ho (by unfold clash; rw [h2, hq]; simp)
      · exact cmpL i hi hT (.inl hq)
    · rcases hh with ⟨o', h1, h2, _⟩ | ⟨hT, _⟩
      · exact ba.od.clash j i o o' hi ho h1 (by unfold clash; rw [h2, hq]; simp)
      · exact cmpR i hi hT (.inl hq)
  have flo : (hs j).floor = (hs 0).floor := ba.floor fa j hjm (Nat.le_of_lt hjn)
  have hfloor : (hs j).floor ≤ (hs j).next := by
    rw [flo]
    exact Nat.le_trans ba.inv0.flo (fa.mono (Nat.zero_le j) hjm)
  unfold stepD at hst
  cases hT : isT C ops j with
  | true =>
    rw [hT, if_pos rfl] at hst
    unfold trun at hst
    have hq : isQ o.op = true := by
      obtain ⟨o', h1, h2⟩ := isT_some hT
      rw [ho] at h1; injection h1 with h1; subst h1; exact h2
    cases hg : guarded C call ops (es j) o ⟨fun l => if vis ops (hs 0).next (bs j) j l then (hs j).blk l else none, (hs j).next, (hs j).floor⟩ with
    | none => rw [hg] at hst; cases hst
    | some x =>
    rw [hg] at hst
    simp only [Option.bind_some, Option.some.injEq, Prod.mk.injEq] at hst
    obtain ⟨hv, hst⟩ := hst
    have inv := inv_view ba fa st hjm hb (Hj := ⟨fun l => if vis ops (hs 0).next (bs j) j l then (hs j).blk l else none, (hs j).next, (hs j).floor⟩) rfl hfloor (view hq)
    rw [guarded_mask] at hg
    refine ok_guarded good SF inv gl T ho hg fun y w' ld => k _ _ ?_
    rw [hv] at ld
    have hitT : ∀ l, hitS C ops hs es l j → (hs 0).floor ≤ l ∧ vis ops (hs 0).next (bs j) j l = true ∧ ∃ B, (hs j).blk l = some B := fun l hh => by
      rcases hh with ⟨o', h1, h2, _⟩ | ⟨_, h1, h2, h3⟩
      · rw [ho] at h1; injection h1 with h1; subst h1
        have := isS_not_isQ h2
        rw [hq] at this; cases this
      · exact ⟨h1, vis_of ba.tr ba.b0 (Nat.le_of_lt hjn) h2, h3⟩
    have eb : ∀ l, (hs (j + 1)).blk l = if l < (hs j).next then (if vis ops (hs 0).next (bs j) j l && decide ((hs j).floor ≤ l) && ((hs j).blk l).isSome then x.2.blk l else (hs j).blk l) else x.2.blk l := fun l => by rw [← hst]
    refine advance ba fa hSm st hjm hjn hj hb ho inv ld (by rw [← hst]) (fun l h => ?_) (fun l h => ?_) (fun l h => ?_) (fun l B h hl => ?_) (fun l h => ?_)
    · rw [eb, if_neg (by have := h.1; omega)]
    · rw [eb]
      by_cases hl : l < (hs j).next
      · rw [if_pos hl]
        split
        · exact .inl rfl
        · exact .inr rfl
      · rw [if_neg hl]; exact .inl rfl
    · obtain ⟨h1, h2, B, h3⟩ := hitT l h
      obtain ⟨_, hd, _⟩ := view hq l B (by rw [if_pos h2]; exact h3)
      refine ⟨?_, hd⟩
      rw [eb, if_pos (dlow l hd), h2, h3, flo, decide_eq_true h1]
      rfl
    · by_cases hvis : vis ops (hs 0).next (bs j) j l = true
      case neg => exact absurd h (by show ¬ (if _ then _ else _) = _; rw [if_neg hvis]; simp)
      have h' : (hs j).blk l = some B := by
        have h2 : (if vis ops (hs 0).next (bs j) j l then (hs j).blk l else none) = some B := h
        rwa [if_pos hvis] at h2
      have hl' : (hs j).floor ≤ l := hl
      rw [flo] at hl'
      exact ⟨.inr ⟨hT, hl', visP_of ba.tr ba.b0 (Nat.le_of_lt hjn) hvis, B, h'⟩, hl', B, h'⟩
    · obtain ⟨h1, h2, B, h3⟩ := hitT l h
      exact (view hq l B (by rw [if_pos h2]; exact h3)).2.2
  | false =>
  rw [hT, if_neg (by simp)] at hst
  have oneS : ∀ l, hitS C ops hs es l j → isS o.op = true ∧ ∃ a f, ptrOf C (es j) o.op = .ptr l a f := fun l hh => by
    rcases hh with ⟨o', h1, h2, h3⟩ | ⟨h1, _⟩
    · rw [ho] at h1; injection h1 with h1; subst h1; exact ⟨h2, h3⟩
    · rw [hT] at h1; cases h1
  cases hq : isQ o.op with
  | true =>
    rw [hq, if_pos rfl] at hst
    unfold qrun at hst
    cases hg : guarded C call ops (es j) o ⟨fun l => if vis ops (hs 0).next (bs j) j l then (hs j).blk l else none, (hs j).next, (hs j).next⟩ with
    | none => rw [hg] at hst; cases hst
    | some x =>
    rw [hg] at hst
    simp only [Option.bind_some, Option.some.injEq, Prod.mk.injEq] at hst
    obtain ⟨hv, hst⟩ := hst
    have noS : ∀ l, ¬ hitS C ops hs es l j := fun l h => by have := isS_not_isQ (oneS l h).1; rw [hq] at this; cases this
    have inv := inv_view ba fa st hjm hb (Hj := ⟨fun l => if vis ops (hs 0).next (bs j) j l then (hs j).blk l else none, (hs j).next, (hs j).next⟩) rfl (Nat.le_refl _) (view hq)
    rw [guarded_mask] at hg
    refine ok_guarded good SF inv gl T ho hg fun y w' ld => k _ _ ?_
    rw [hv] at ld
    have eb : ∀ l, (hs (j + 1)).blk l = if l < (hs j).next then (hs j).blk l else x.2.blk l := fun l => by rw [← hst]
    refine advance ba fa hSm st hjm hjn hj hb ho inv ld (by rw [← hst]) (fun l h => ?_) (fun l h => ?_) (fun l h => absurd h (noS l)) (fun l B h hl => ?_) (fun l h => absurd h (noS l))
    · rw [eb, if_neg (by have := h.1; omega)]
    · rw [eb]
      by_cases hl : l < (hs j).next
      · rw [if_pos hl]; exact .inr rfl
      · rw [if_neg hl]; exact .inl rfl
    · have := dlow l (view hq l B h).2.1
      have hl' : (hs j).next ≤ l := hl
      omega
  | false =>
    rw [hq, if_neg (by simp)] at hst
    cases hm : memConv C.P o.op with
    | true => rw [hm, if_pos rfl] at hst; cases hst
    | false =>
    rw [hm, if_neg (by simp)] at hst
    have ptrD : ∀ l a' f, ptrOf C (es j) o.op = .ptr l a' f → dset K0 ops.size hs (fun i => bef ops j i = true) l := fun l a' f hp => by
      rw [← ptrOf_mask (ops := ops)] at hp
      have fin : ∀ x, ev C (mask (touches ops o) (es j)) x = .ptr l a' f → dset K0 ops.size hs (fun i => bef ops j i = true) l := fun x hx => by
        have := ev_rel gl T x
        rw [hx] at this
        generalize a.eval x = y at this
        cases this with
        | ptr _ _ _ b off sz hl hρ => exact hl
      cases hop : o.op <;> rw [hop] at hp <;> first
        | exact fin _ hp
        | cases hp
    have seen : ∀ l a' f, (isL o.op = true ∨ isS o.op = true) → ptrOf C (es j) o.op = .ptr l a' f → Seen C ops hs es S j l := fun l a' f hls hp => by
      refine seen_of ba fa hSm hclo hjm hjn hj hb (ptrD l a' f hp) (fun i hi hh => ?_) (fun i hS hi hh => ?_)
      · rcases hh with ⟨o', h1, h2, a2, f2, h3⟩ | ⟨hTi, _⟩
        case inr => exact cmpL i hi hTi (.inr hls.symm)
        rcases hls with hl | hs'
        · cases hbf : bef ops j i with
          | true => rfl
          | false =>
            have hmem : i ∈ conf ops j := by
              unfold conf
              rw [List.mem_filter]
              refine ⟨List.mem_range.2 hi, ?_⟩
              rw [h1, ho]
              simp only [h2, hl, hbf, Bool.and_true, Bool.true_and, Bool.not_false, Bool.true_or]
            have := List.all_eq_true.1 hcf i hmem
            rw [ba.ptrAt h1 j hi (Nat.le_of_lt hjn), h3, hp] at this
            simp [apartV] at this
        · exact ba.od.clash i j o' o hi h1 ho (by unfold clash; rw [h2, hs']; simp)
      · rcases hh with ⟨o', h1, h2, a2, f2, h3⟩ | ⟨hTi, _⟩
        case inr => exact cmpR i hi hTi (.inr hls.symm)
        rcases hls with hl | hs'
        · cases hbf : bef ops i j with
          | true => rfl
          | false =>
            have him := (st.clo i hS).1
            obtain ⟨o2, ho2, hcf2, _⟩ := ba.tr i (Nat.zero_le _) him
            rw [h1] at ho2; injection ho2 with ho2; subst ho2
            have hmem : j ∈ conf ops i := by
              unfold conf
              rw [List.mem_filter]
              refine ⟨List.mem_range.2 hi, ?_⟩
              rw [h1, ho]
              simp only [h2, hl, hbf, Bool.and_true, Bool.not_false, Bool.or_true]
            have := List.all_eq_true.1 hcf2 j hmem
            rw [ba.ptrAt ho i hi (Nat.le_of_lt him), h3, hp] at this
            simp [apartV] at this
        · exact ba.od.clash j i o o' hi ho h1 (by unfold clash; rw [h2, hs']; simp)
    let Hj : Heap := ⟨fun l => if (isL o.op = true ∨ isS o.op = true) ∧ ∃ a f, ptrOf C (es j) o.op = .ptr l a f then (hs j).blk l else none, (hs j).next, if isS o.op = true then (hs j).floor else (hs j).next⟩
    have hjb : ∀ l, Hj.blk l = if (isL o.op = true ∨ isS o.op = true) ∧ ∃ a f, ptrOf C (es j) o.op = .ptr l a f then (hs j).blk l else none := fun _ => rfl
    have inv : Inv σ ⟨I, ρ, (hs j).next, dset K0 ops.size hs fun i => bef ops j i = true⟩ Hj w := inv_view ba fa st hjm hb rfl (by show (if isS o.op = true then _ else _) ≤ _; split <;> first | exact hfloor | exact Nat.le_refl _) fun l B h => by
      rw [hjb] at h
      split at h
      · rename_i hc
        obtain ⟨hls, a', f, hp⟩ := hc
        exact ⟨h, ptrD l a' f hp, seen l a' f hls hp⟩
      · cases h
    obtain ⟨H2', hg, lo⟩ := local_guarded (H2 := Hj) hq (ba.od.ok j o ho) hm hst rfl (fun h => by show (if isS o.op = true then _ else _) = _; rw [if_pos h]) (fun l a' f hls hp => by rw [hjb, if_pos ⟨hls, a', f, hp⟩]) (fa.bnd j hjm)
    rw [guarded_mask] at hg
    refine ok_guarded good SF inv gl T ho hg fun y w' ld => k _ _ ?_
    refine advance ba fa hSm st hjm hjn hj hb ho inv ld lo.next (fun l h => lo.new l h.1 h.2) (fun l h => .inr (lo.out l h)) (fun l h => ?_) (fun l B h hl => ?_) (fun l h => ?_)
    · obtain ⟨h1, a', f, h2⟩ := oneS l h
      exact ⟨lo.at_ l a' f h1 h2, ptrD l a' f h2⟩
    · rw [hjb] at h
      split at h
      · rename_i hc
        obtain ⟨hls, a', f, hp⟩ := hc
        by_cases hs' : isS o.op = true
        · refine ⟨.inl ⟨o, ho, hs', a', f, hp⟩, ?_, B, h⟩
          have hl' : (if isS o.op = true then (hs j).floor else (hs j).next) ≤ l := hl
          rw [if_pos hs', ba.floor fa j hjm (Nat.le_of_lt hjn)] at hl'
          exact hl'
        · have hl' : (if isS o.op = true then (hs j).floor else (hs j).next) ≤ l := hl
          rw [if_neg hs'] at hl'
          have := dlow l (ptrD l a' f hp)
          omega
      · cases h
    · obtain ⟨h1, a', f, h2⟩ := oneS l h
      exact seen l a' f (.inr h1) h2

/-- From a step's statement to a step. -/
theorem wpOp_ex {P : Program} {i : Nat} {next : Act → World → Prop} {a : Act} {w : World} (h : wpOp P ops (fun _ _ _ => False) i next a w) : ∃ a' w', next a' w' := by
  unfold wpOp at h
  split at h
  · exact ⟨_, _, h⟩
  · rename_i o _
    split at h
    · rcases h with h | ⟨_, h⟩
      · unfold Oper.wp at h
        cases hr : (execOp a.eval o).run P w with
        | ok nx w' =>
          rw [hr] at h
          cases nx <;> simp only [Oper.upon] at h <;> first
            | exact h.elim
            | exact ⟨_, _, h⟩
            | (obtain ⟨e, w'', fr, hR, _⟩ := h []
               cases e with
               | returned v => exact ⟨_, _, hR⟩
               | panicked c => exact hR.elim
               | outgrown => obtain ⟨_, _, hR⟩ := hR; exact hR.elim)
            | (obtain ⟨v, w'', hR, _⟩ := h default []
               exact ⟨_, _, hR⟩)
        | halt x w' =>
          rw [hr] at h
          cases x <;> exact h.elim
      · obtain ⟨_, _, h⟩ := h; exact h.elim
    · exact ⟨_, _, h⟩

theorem st_zero {I : Nat → Prop} (ba : Base C σ call ops hs es vs bs N K0 w0) {a : Act} (gl : GlobOk C σ K0 w0) (er : EnvRel σ K0 w0 N (es 0) a) : St C σ ops hs es N K0 w0 (fun _ => False) K0.I K0.ρ a w0 where
  clo := fun j h => h.elim
  slot := fun t k hL => by
    rcases hL.1 with rfl | ⟨h, _⟩
    · exact (er.tmp t).mono ⟨fun _ h => h, fun _ _ => rfl, fun l h => .inl h, fun _ _ => rfl, fun b cs e f h => ⟨cs, f, h, rfl⟩⟩
    · exact h.elim
  blk := fun l k B hL hd hB => by
    rcases hL.1 with rfl | ⟨h, _⟩
    · have hbl := ba.inv0.blk l B hB
      exact hbl.move ⟨fun _ h => h, fun _ _ => rfl, fun l h => .inl h, fun _ _ => rfl, fun b cs e f h => ⟨cs, f, h, rfl⟩⟩ rfl hbl.own
    · exact h.elim
  inj := fun l l' k k' B B' hL hL' hd hd' hB hB' he => by
    rcases hL.1 with rfl | ⟨h, _⟩
    · rcases hL'.1 with rfl | ⟨h, _⟩
      · exact ba.inv0.inj l l' B B' hB hB' he
      · exact h.elim
    · exact h.elim
  imm := ba.inv0.imm
  I0 := fun _ h => h
  newI := fun _ h _ => h
  ρ0 := fun _ _ => rfl
  fresh := fun l k B hn _ hd _ => by
    rcases hd with hd | ⟨_, _, h, _⟩
    · exact absurd hd hn
    · exact h.elim
  gl := gl.sub fun _ h => h
  tgt := fun _ _ h => h.elim
  frame := fun _ _ _ => rfl
  shape := fun b cs e f h => ⟨cs, f, h, rfl⟩
  size := Nat.le_refl _
  os := rfl
  tape := rfl
  output := rfl
  tsz := er.size
  dfr := er.defers

/-- All the facts: the run in the order of the text is one of the orders. -/
theorem fa_all (good : Good C σ) (SF : ∀ f, SoundF C σ f (call f)) (ba : Base C σ call ops hs es vs bs N K0 w0) {a : Act} (gl : GlobOk C σ K0 w0) (er : EnvRel σ K0 w0 N (es 0) a) :
    ∀ m, m ≤ ops.size → Fa hs m ∧ ∃ I ρ a' w', St C σ ops hs es N K0 w0 (fun i => i < m) I ρ a' w'
  | 0, _ => by
    refine ⟨⟨fun j h => by omega, fun j h l B hB => ?_⟩, K0.I, K0.ρ, a, w0, ?_⟩
    · have : j = 0 := by omega
      subst this
      exact ba.D0 l (ba.inv0.blk l B hB).lt
    · have := st_zero (I := K0.I) ba gl er
      have e : (fun i : Nat => i < 0) = fun _ => False := by funext i; simp
      rw [e]; exact this
  | m + 1, hm => by
    obtain ⟨fa, I, ρ, a', w', st⟩ := fa_all good SF ba gl er m (by omega)
    obtain ⟨a2, w2, ⟨q1, q2⟩, I', ρ', q3⟩ := wpOp_ex (stepAt good SF ba fa (S := fun i => i < m) (fun _ h => h) (by omega) st (j := m) (Nat.le_refl _) hm (Nat.lt_irrefl _) (fun i hi => bef_lt ba.od _ _ hi) (fun _ _ h => h))
    refine ⟨⟨fun j hj => ?_, fun j hj l B hB => ?_⟩, I', ρ', a2, w2, ?_⟩
    · rcases Nat.lt_or_ge j m with g | g
      · exact fa.nxt j g
      · have : j = m := by omega
        subst this; exact q1
    · rcases Nat.lt_or_ge j (m + 1) with g | g
      · exact fa.bnd j (by omega) l B hB
      · have : j = m + 1 := by omega
        subst this; exact q2 l B hB
    · have e : (fun i : Nat => i < m + 1) = fun i => i < m ∨ i = m := by funext i; apply propext; omega
      rw [e]; exact q3
end
end Go.Fv

/-! A region whose order is open: the end. -/
namespace Go.Fv
open Go

section
variable {C : Cfg} {σ : Nat → Addr} {call : FuncId → List V → M V} {ops : Array Oper} {hs : Nat → Heap} {es : Nat → Env} {vs : Nat → V} {bs : Nat → List (Nat × Nat × Nat × V)} {N : Nat} {K0 : Ctx} {w0 : World}

theorem ready_mem {listed : Array Bool} {j : Nat} : j ∈ Region.ready .any ops listed ↔ j < ops.size ∧ listed.getD j true = false ∧ ∃ o, ops[j]? = some o ∧ ∀ e ∈ o.after.toList, Region.binds .any e = true → listed.getD e.on false = true := by
  unfold Region.ready
  rw [List.mem_filter, List.mem_range]
  constructor
  · rintro ⟨h1, h2⟩
    rw [Bool.and_eq_true] at h2
    refine ⟨h1, by simpa using h2.1, ?_⟩
    cases ho : ops[j]? with
    | none => rw [ho] at h2; simp at h2
    | some o =>
      rw [ho] at h2
      refine ⟨o, rfl, fun e he hb => ?_⟩
      have h3 := h2.2
      simp only [Option.map_some, Option.getD_some] at h3
      rw [Array.all_eq_true'] at h3
      have := h3 e (Array.mem_toList_iff.1 he)
      rw [hb] at this
      simpa using this
  · rintro ⟨h1, h2, o, ho, h3⟩
    refine ⟨h1, ?_⟩
    rw [Bool.and_eq_true]
    refine ⟨by simp [h2], ?_⟩
    rw [ho]
    simp only [Option.map_some, Option.getD_some]
    rw [Array.all_eq_true']
    intro e he
    cases hb : Region.binds .any e with
    | false => rfl
    | true => simpa using h3 e (Array.mem_toList_iff.2 he) hb

/-- The run has ended: it stands where the run in the order of the text stands. -/
theorem st_end (ba : Base C σ call ops hs es vs bs N K0 w0) (fa : Fa hs ops.size) {S : Nat → Prop} (hS : ∀ i, i < ops.size → S i) {I : Nat → Prop} {ρ : Nat → Nat × Nat × Nat} {a : Act} {w : World} (st : St C σ ops hs es N K0 w0 S I ρ a w) :
    ∃ K', Inv σ K' (hs ops.size) w ∧ GlobOk C σ K' w ∧ EnvRel σ K' w N (es ops.size) a ∧ Evo K0 (hs 0) w0 K' (hs ops.size) w := by
  have lst : ∀ p : Nat → Prop, (∀ i, p i → i < ops.size) → ∃ k, k ≤ ops.size ∧ Last S p k ∧ ∀ i, p i → i < k := fun p hp => by
    obtain ⟨k, h1, h2, h3⟩ := lastBelow p ops.size
    exact ⟨k, h1, ⟨h2.imp id fun h => ⟨hS _ (hp _ h), h⟩, fun i _ hi => h3 i hi (hp i hi)⟩, fun i hi => h3 i hi (hp i hi)⟩
  have hitlt : ∀ l i, hit C ops hs es l i → i < ops.size := fun l i h => h.1
  have blkAt : ∀ l, ∃ k, Last S (hit C ops hs es l) k ∧ (hs ops.size).blk l = (hs k).blk l := fun l => by
    obtain ⟨k, k1, k2, k3⟩ := lst (hit C ops hs es l) (hitlt l)
    exact ⟨k, k2, ba.unch fa ops.size k1 (Nat.le_refl _) (Nat.le_refl _) fun i hi _ hh => by have := k3 i hh; omega⟩
  have dsAll : ∀ l B, (hs ops.size).blk l = some B → dset K0 ops.size hs S l := fun l B hB => by
    have hlt := fa.bnd ops.size (Nat.le_refl _) l B hB
    have : ∀ m, m ≤ ops.size → l < (hs m).next → l < (hs 0).next ∨ ∃ i, i < ops.size ∧ born hs l i := by
      intro m
      induction m with
      | zero => exact fun _ h => .inl h
      | succ m ih =>
        intro hm hl
        rcases Nat.lt_or_ge l (hs m).next with g | g
        · exact ih (by omega) g
        · exact .inr ⟨m, by omega, g, hl⟩
    rcases this ops.size (Nat.le_refl _) hlt with h | ⟨i, h1, h2⟩
    · obtain ⟨B0, hB0⟩ := ba.back fa h ops.size (Nat.le_refl _) (Nat.le_refl _) ⟨B, hB⟩
      exact .inl (ba.inv0.blk l B0 hB0).lt
    · exact .inr ⟨i, h1, hS i h1, h2⟩
  have dlt : ∀ l, dset K0 ops.size hs S l → l < (hs ops.size).next := fun l h => dset_lt fa (Nat.le_refl _) ba.D0 (fun i hi => (st.clo i hi).1) h
  have up : ∀ (A : Nat → Prop), (∀ i, A i → S i) → Moves ⟨I, ρ, 0, dset K0 ops.size hs A⟩ ⟨I, ρ, (hs ops.size).next, dset K0 ops.size hs S⟩ w w := fun A hA =>
    ⟨fun _ h => h, fun _ _ => rfl, fun l h => dset_mono hA h, fun _ _ => rfl, fun b cs e f h => ⟨cs, f, h, rfl⟩⟩
  have uptoS : ∀ j i, S j → upto ops j i → S i := fun j i hj h => by
    rcases h with rfl | h
    · exact hj
    · exact (st.clo j hj).2 i h
  refine ⟨⟨I, ρ, (hs ops.size).next, dset K0 ops.size hs S⟩, ⟨rfl, dlt, ?_, fun l B hB => ?_, fun l l' B B' hB hB' he => ?_, st.imm⟩, st.gl.sub fun _ h => h, ⟨st.tsz, st.dfr, fun t => ?_⟩, ?_⟩
  · rw [ba.floor fa ops.size (Nat.le_refl _) (Nat.le_refl _)]
    exact Nat.le_trans ba.inv0.flo (fa.mono (Nat.zero_le _) (Nat.le_refl _))
  · obtain ⟨k, k1, k2⟩ := blkAt l
    have hbl := st.blk l k B k1 (dsAll l B hB) (by rw [← k2]; exact hB)
    exact hbl.move (up _ fun i ⟨j, h1, _, h3⟩ => uptoS j i h1 h3) rfl hbl.own
  · obtain ⟨k, k1, k2⟩ := blkAt l
    obtain ⟨k', k1', k2'⟩ := blkAt l'
    exact st.inj l l' k k' B B' k1 k1' (dsAll l B hB) (dsAll l' B' hB') (by rw [← k2]; exact hB) (by rw [← k2']; exact hB') he
  · obtain ⟨k, k1, k2, k3⟩ := lst (wr ops t) (fun i ⟨o, ho, _⟩ => (Array.getElem?_eq_some_iff.1 ho).1)
    rw [ba.esame ops.size k1 (Nat.le_refl _) fun i hi _ hw => by have := k3 i hw; omega]
    refine (st.slot t k k2).mono (up _ fun i ⟨h1, h2⟩ => ?_)
    rcases k2.1 with h0 | ⟨h3, _⟩
    · exact absurd h0 h1
    · exact uptoS _ i h3 h2
  · exact {
      I := st.I0
      ρ := st.ρ0
      D := fun l h => .inl h
      nx := by rw [ba.inv0.nx]; exact fa.mono (Nat.zero_le _) (Nat.le_refl _)
      floor := ba.floor fa ops.size (Nat.le_refl _) (Nat.le_refl _)
      low := fun l h1 h2 => by
        have : ∀ j, j ≤ ops.size → (hs j).blk l = (hs 0).blk l := by
          intro j
          induction j with
          | zero => exact fun _ => rfl
          | succ j ih =>
            intro hj
            rw [← ih (by omega)]
            have hv := ba.vsAt fa (i := j) (by omega) (by omega)
            refine Classical.byContradiction fun hc => ?_
            have h3 := hv.lo l (Nat.lt_of_lt_of_le h2 (fa.mono (Nat.zero_le j) (by omega))) hc
            rw [ba.floor fa j (by omega) (by omega)] at h3
            omega
        exact this ops.size (Nat.le_refl _)
      frame := st.frame
      shape := st.shape
      size := st.size
      os := st.os
      tape := st.tape
      output := st.output
      range := fun l B hB hlt => by
        obtain ⟨k, k1, k2⟩ := blkAt l
        have hd := dsAll l B hB
        by_cases h0 : K0.D l
        · obtain ⟨B0, hB0⟩ := ba.back fa (ba.D0 l h0) ops.size (Nat.le_refl _) (Nat.le_refl _) ⟨B, hB⟩
          exact ⟨l, B0, hB0, by show (K0.ρ l).1 = (ρ l).1; rw [st.ρ0 l h0], .inl rfl⟩
        · have hlt' : (ρ l).1 < w0.heap.size := hlt
          rcases st.fresh l k B h0 k1 hd (by rw [← k2]; exact hB) with q | ⟨l0, B0, q1, q2, q3⟩
          · omega
          · exact ⟨l0, B0, q1, q3, .inr q2⟩
      newI := st.newI
      newD := fun l h hlt => by
        rw [ba.inv0.nx] at hlt
        rcases h with h | ⟨i, h1, _, h3⟩
        · exact h
        · have := fa.mono (Nat.zero_le i) (Nat.le_of_lt h1)
          have := h3.1
          omega }

theorem all_of (good : Good C σ) (SF : ∀ f, SoundF C σ f (call f)) (ba : Base C σ call ops hs es vs bs N K0 w0) (fa : Fa hs ops.size) {Q : Exit → Act → World → Prop}
    (fin : ∀ S I ρ a w, (∀ i, i < ops.size → S i) → St C σ ops hs es N K0 w0 S I ρ a w → Q .normal a w) :
    ∀ (fuel : Nat) (listed : Array Bool) (a : Act) (w : World) (I : Nat → Prop) (ρ : Nat → Nat × Nat × Nat), listed.size = ops.size → listed.toList.countP (!·) ≤ fuel → St C σ ops hs es N K0 w0 (fun i => listed.getD i false = true) I ρ a w →
      wpAny C.P .any ops Q fuel listed a w := by
  have done : ∀ (listed : Array Bool), listed.size = ops.size → Region.ready .any ops listed = [] → ∀ i, i < ops.size → listed.getD i false = true := by
    intro listed hsz hr i
    induction i using Nat.strongRecOn with
    | _ i ih =>
      intro hi
      cases hl : listed.getD i false with
      | true => rfl
      | false =>
        have : i ∈ Region.ready .any ops listed := by
          refine ready_mem.2 ⟨hi, ?_, ops[i], Array.getElem?_eq_getElem hi, fun e he hb => ?_⟩
          · rw [Array.getD_eq_getD_getElem?] at hl ⊢
            rw [Array.getElem?_eq_getElem (by omega)] at hl ⊢
            exact hl
          · have := ba.od.edge i _ (Array.getElem?_eq_getElem hi) e he hb
            exact ih e.on this (by omega)
        rw [hr] at this
        cases this
  intro fuel
  induction fuel with
  | zero =>
    intro listed a w I ρ hsz hc st
    have hall : ∀ i, i < ops.size → listed.getD i false = true := fun i hi => by
      have h0 : listed.toList.countP (!·) = 0 := by omega
      rw [List.countP_eq_zero] at h0
      have hi' : i < listed.size := by omega
      have := h0 listed[i] (by simp)
      rw [Array.getD_eq_getD_getElem?, Array.getElem?_eq_getElem hi']
      simpa using this
    refine ⟨?_, fin _ I ρ a w hall st⟩
    cases hr : Region.ready .any ops listed with
    | nil => rfl
    | cons x xs =>
      have hx : x ∈ Region.ready .any ops listed := by rw [hr]; exact List.mem_cons_self ..
      obtain ⟨h1, h2, _⟩ := ready_mem.1 hx
      have := hall x h1
      rw [Array.getD_eq_getD_getElem?] at this h2
      rw [Array.getElem?_eq_getElem (by omega)] at this h2
      simp at this h2
      rw [this] at h2; cases h2
  | succ fuel ih =>
    intro listed a w I ρ hsz hc st
    refine ⟨fun hr => fin _ I ρ a w (done listed hsz hr) st, fun j hjr => ?_⟩
    obtain ⟨hjn, hjl, o, ho, hed⟩ := ready_mem.1 hjr
    have hjl' : listed[j]? = some false := by
      rw [Array.getD_eq_getD_getElem?, Array.getElem?_eq_getElem (by omega)] at hjl
      rw [Array.getElem?_eq_getElem (by omega)]
      simpa using hjl
    refine stepAt good SF ba fa (S := fun i => listed.getD i false = true) (fun i hi => (st.clo i hi).1) (Nat.le_refl _) st (Nat.le_of_lt hjn) hjn (by rw [Array.getD_eq_getD_getElem?, hjl']; simp) (fun i hi => ?_) fun a' w' h => ?_
    · obtain ⟨e, h1, h2, h3⟩ := (bef_iff ba.od ho i).1 hi
      have := hed e h1 h2
      rcases h3 with rfl | h3
      · exact this
      · exact (st.clo _ this).2 i h3
    · obtain ⟨_, I', ρ', st'⟩ := h
      refine ih (listed.setIfInBounds j true) a' w' I' ρ' (by simpa using hsz) ?_ ?_
      · have hjlt : j < listed.toList.length := by rw [Array.length_toList, hsz]; exact hjn
        have hcnt : (listed.setIfInBounds j true).toList.countP (!·) + 1 = listed.toList.countP (!·) := by
          rw [Array.toList_setIfInBounds, List.countP_set hjlt]
          have : listed.toList[j] = false := by
            have := (Array.getElem?_eq_some_iff.1 hjl').2
            simpa using this
          have hpos : 0 < listed.toList.countP (!·) := List.countP_pos_iff.2 ⟨false, by rw [← this]; exact List.getElem_mem _, rfl⟩
          rw [this]
          simp only [Bool.not_false, Bool.not_true, if_true, Bool.false_eq_true, if_false, Nat.add_zero]
          have := hpos
          omega
        omega
      · have e : (fun i => (listed.setIfInBounds j true).getD i false = true) = fun i => listed.getD i false = true ∨ i = j := by
          funext i
          apply propext
          simp only [Array.getD_eq_getD_getElem?]
          by_cases e : i = j
          · subst e
            simp; omega
          · rw [Array.getElem?_setIfInBounds_ne (Ne.symm e)]
            simp [e]
        rw [e]; exact st'

theorem drawn_ok (good : Good C σ) (SF : ∀ f, SoundF C σ f (call f)) : DrawnOk C σ call := by
  intro ops N Kc r K H w env a id inv gl er hN hok hrun
  obtain ⟨hs, es, vs, bs, q1, q2, q3, q4, q5⟩ := trace_of (n0 := H.next) ops.toList 0 [] env H (by simp) hrun
  simp only [Nat.zero_add, Array.length_toList] at q4 q5
  obtain ⟨inv', evo'⟩ := inv.drew
  have mv := inv.moves evo'
  subst q1; subst q2
  have ba : Base C σ call ops hs es vs bs N K w.drew := ⟨ord_of hok, q4, q3, inv', hN⟩
  have gl' := gl.mono mv
  have er' := er.mono mv
  have fa := (fa_all good SF ba gl' er' ops.size (Nat.le_refl _)).1
  refine wp_region_any good.mixed ?_
  refine all_of good SF ba fa (fun S I ρ a' w' hS st => ?_) ops.size (Array.replicate ops.size false) a w.drew K.I K.ρ (by simp) ?_ ?_
  · obtain ⟨K', i1, i2, i3, i4⟩ := st_end ba fa hS st
    refine ⟨.normal, es ops.size, K', hs ops.size, rfl, i1, i2, i3, Evo.trans inv inv' evo' i4, fun t ht => ?_, q5⟩
    exact ba.esame ops.size (Nat.zero_le _) (Nat.le_refl _) fun i _ _ ⟨o, ho, hd⟩ => ht (mem_dsts (Array.mem_toList_iff.2 (Array.mem_of_getElem? ho)) hd)
  · exact Nat.le_trans List.countP_le_length (by simp)
  · have := st_zero (I := K.I) ba gl' er'
    have e : (fun i => (Array.replicate ops.size false).getD i false = true) = fun _ => False := by
      funext i
      apply propext
      simp only [Array.getD_eq_getD_getElem?, iff_false]
      cases h : (Array.replicate ops.size false)[i]? with
      | none => simp
      | some b => rw [Array.getElem?_replicate] at h; split at h <;> simp at h; subst h; simp
    rw [e]; exact this

/-- Every plain meaning is sound. -/
theorem sound (good : Good C σ) (n : Nat) (f : FuncId) : SoundF C σ f (sem C n f) := ok_sem good (fun _ SF => drawn_ok good SF) n f
end
end Go.Fv
