/-
  A region whose order is open: the run in the order of the text, and every other. By an AI agent; no person has read it.
-/
import Derived.Test.YtjjiphigolegbaaDoorFvLocal2
set_option linter.unusedVariables false
set_option linter.unusedSimpArgs false
set_option linter.unusedSectionVars false
/-! A region whose order is open: the run in the order of the text, and every other. -/
namespace Go.Fv
open Go

section
variable {C : Cfg} {σ : Nat → Addr} {call : FuncId → List V → M V} {ops : Array Oper} {n0 : Nat} {hs : Nat → Heap} {es : Nat → Env} {vs : Nat → V} {bs : Nat → List (Nat × Nat × Nat × V)}

/-- The run in the order of the text, step by step. -/
def Tr (C : Cfg) (call : FuncId → List V → M V) (ops : Array Oper) (n0 : Nat) (hs : Nat → Heap) (es : Nat → Env) (vs : Nat → V) (bs : Nat → List (Nat × Nat × Nat × V)) (i n : Nat) : Prop :=
  ∀ j, i ≤ j → j < n → ∃ o, ops[j]? = some o ∧ ((conf ops j).all fun k => apartV (ptrAt (bs j) k) (ptrOf C (es j) o.op)) = true ∧
    stepD C call ops n0 j (bs j) (es j) o (hs j) = some (vs j, hs (j + 1)) ∧ es (j + 1) = put (es j) o.dst (vs j) ∧ bs (j + 1) = (j, (hs j).next, (hs (j + 1)).next, ptrOf C (es j) o.op) :: bs j

theorem runDrawn_cons (o : Oper) (l : List Oper) (i : Nat) (b : List (Nat × Nat × Nat × V)) (env : Env) (Kc : Env → M R) (h : Heap) : runDrawn C call ops n0 (o :: l) i b env Kc h =
    if (conf ops i).all fun k => apartV (ptrAt b k) (ptrOf C env o.op) then
        (stepD C call ops n0 i b env o h).bind fun x => runDrawn C call ops n0 l (i + 1) ((i, h.next, x.2.next, ptrOf C env o.op) :: b) (put env o.dst x.1) Kc x.2
      else none := rfl

theorem trace_of {Kc : Env → M R} {r : R × Heap} : ∀ (l : List Oper) (i : Nat) (b0 : List (Nat × Nat × Nat × V)) (env : Env) (h : Heap), l = ops.toList.drop i → runDrawn C call ops n0 l i b0 env Kc h = some r →
    ∃ hs es vs bs, hs i = h ∧ es i = env ∧ bs i = b0 ∧ Tr C call ops n0 hs es vs bs i (i + l.length) ∧ Kc (es (i + l.length)) (hs (i + l.length)) = some r
  | [], i, b0, env, h, _, hr => ⟨fun _ => h, fun _ => env, fun _ => .undef, fun _ => b0, rfl, rfl, rfl, fun j h1 h2 => by simp at h2; omega, hr⟩
  | o :: l, i, b0, env, h, hl, hr => by
    have ho : ops[i]? = some o := by
      rw [← Array.getElem?_toList, ← Nat.add_zero i, ← List.getElem?_drop, ← hl]; rfl
    have hl' : l = ops.toList.drop (i + 1) := by rw [← List.drop_drop, ← hl]; rfl
    rw [runDrawn_cons] at hr
    split at hr
    case isFalse => cases hr
    rename_i hc
    cases hst : stepD C call ops n0 i b0 env o h with
    | none => rw [hst] at hr; cases hr
    | some x =>
      rw [hst] at hr
      simp only [Option.bind_some] at hr
      obtain ⟨hs, es, vs, bs, q1, q2, q3, q4, q5⟩ := trace_of l (i + 1) _ _ _ hl' hr
      have e : i + 1 + l.length = i + (o :: l).length := by simp; omega
      rw [e] at q4 q5
      have ne : i + (o :: l).length ≠ i := by simp
      refine ⟨fun k => if k = i then h else hs k, fun k => if k = i then env else es k, fun k => if k = i then x.1 else vs k, fun k => if k = i then b0 else bs k, by simp, by simp, by simp, fun j h1 h2 => ?_, by simp only [if_neg ne]; exact q5⟩
      by_cases hj : j = i
      · subst hj
        refine ⟨o, ho, ?_, ?_, ?_, ?_⟩
        · simp only [if_true]; exact hc
        · simp only [if_true, if_neg (Nat.succ_ne_self j)]; rw [hst, q1]
        · simp only [if_true, if_neg (Nat.succ_ne_self j)]; exact q2
        · simp only [if_true, if_neg (Nat.succ_ne_self j)]; rw [q3, q1]
      · obtain ⟨o', p1, p2, p3, p4, p5⟩ := q4 j (by omega) h2
        have nj : j + 1 ≠ i := by omega
        exact ⟨o', p1, by simp only [if_neg hj]; exact p2, by simp only [if_neg hj, if_neg nj]; exact p3, by simp only [if_neg hj, if_neg nj]; exact p4, by simp only [if_neg hj, if_neg nj]; exact p5⟩

/-! ### Sets of operations -/

def upto (ops : Array Oper) (j i : Nat) : Prop := i = j ∨ bef ops j i = true
def wr (ops : Array Oper) (t i : Nat) : Prop := ∃ o, ops[i]? = some o ∧ o.dst = some t
def born (hs : Nat → Heap) (l i : Nat) : Prop := (hs i).next ≤ l ∧ l < (hs (i + 1)).next
def hitS (C : Cfg) (ops : Array Oper) (es : Nat → Env) (l i : Nat) : Prop := ∃ o, ops[i]? = some o ∧ isS o.op = true ∧ ∃ a f, ptrOf C (es i) o.op = .ptr l a f
def hit (C : Cfg) (ops : Array Oper) (hs : Nat → Heap) (es : Nat → Env) (l i : Nat) : Prop := i < ops.size ∧ (born hs l i ∨ hitS C ops es l i)
def dset (K0 : Ctx) (n : Nat) (hs : Nat → Heap) (A : Nat → Prop) (l : Nat) : Prop := K0.D l ∨ ∃ i, i < n ∧ A i ∧ born hs l i
def Last (S p : Nat → Prop) (k : Nat) : Prop := (k = 0 ∨ (S (k - 1) ∧ p (k - 1))) ∧ ∀ i, S i → p i → i < k
def Aof (ops : Array Oper) (k i : Nat) : Prop := k ≠ 0 ∧ upto ops (k - 1) i

theorem dset_mono {K0 : Ctx} {n : Nat} {A B : Nat → Prop} (h : ∀ i, A i → B i) {l : Nat} (hd : dset K0 n hs A l) : dset K0 n hs B l :=
  hd.imp id fun ⟨i, h0, h1, h2⟩ => ⟨i, h0, h i h1, h2⟩

theorem lastBelow (p : Nat → Prop) : ∀ j, ∃ k, k ≤ j ∧ (k = 0 ∨ p (k - 1)) ∧ ∀ i, p i → i < j → i < k
  | 0 => ⟨0, Nat.le_refl _, .inl rfl, fun i _ h => h⟩
  | j + 1 => by
    by_cases h : p j
    · exact ⟨j + 1, Nat.le_refl _, .inr h, fun i _ h => h⟩
    · obtain ⟨k, h1, h2, h3⟩ := lastBelow p j
      exact ⟨k, Nat.le_succ_of_le h1, h2, fun i hp hi => h3 i hp (by
        rcases Nat.lt_or_ge i j with g | g
        · exact g
        · have : i = j := by omega
          subst this; exact absurd hp h)⟩

theorem sync {S : Nat → Prop} {j : Nat} (hclo : ∀ j, S j → ∀ i, bef ops j i = true → S i) (hj : ¬ S j) (hb : ∀ i, bef ops j i = true → S i) (p : Nat → Prop)
    (h1 : ∀ i, i < j → p i → bef ops j i = true) (h2 : ∀ i, S i → j < i → p i → bef ops i j = true) :
    ∃ k, k ≤ j ∧ Last S p k ∧ (k = 0 ∨ bef ops j (k - 1) = true) ∧ (∀ i, i < j → p i → i < k) ∧ ∀ i, S i → p i → bef ops j i = true := by
  have all : ∀ i, S i → p i → i < j ∧ bef ops j i = true := fun i hi hp => by
    rcases Nat.lt_trichotomy i j with g | g | g
    · exact ⟨g, h1 i g hp⟩
    · subst g; exact absurd hi hj
    · exact absurd (hclo i hi j (h2 i hi g hp)) hj
  obtain ⟨k, k1, k2, k3⟩ := lastBelow p j
  refine ⟨k, k1, ⟨?_, fun i hi hp => k3 i hp (all i hi hp).1⟩, ?_, fun i hi hp => k3 i hp hi, fun i hi hp => (all i hi hp).2⟩
  · rcases Nat.eq_zero_or_pos k with g | g
    · exact .inl g
    · rcases k2 with k2 | k2
      · exact .inl k2
      · exact .inr ⟨hb _ (h1 _ (by omega) k2), k2⟩
  · rcases Nat.eq_zero_or_pos k with g | g
    · exact .inl g
    · rcases k2 with k2 | k2
      · exact .inl k2
      · exact .inr (h1 _ (by omega) k2)

/-! ### What the run in the order of the text shows -/

structure Fa (hs : Nat → Heap) (m : Nat) : Prop where
  nxt : ∀ j, j < m → (hs j).next ≤ (hs (j + 1)).next
  bnd : ∀ j, j ≤ m → ∀ l B, (hs j).blk l = some B → l < (hs j).next

theorem Fa.mono {m : Nat} (fa : Fa hs m) : ∀ {k i : Nat}, i ≤ k → k ≤ m → (hs i).next ≤ (hs k).next
  | 0, i, h, _ => by have : i = 0 := by omega
                     subst this; exact Nat.le_refl _
  | k + 1, i, h, hk => by
    rcases Nat.lt_or_ge i (k + 1) with g | g
    · exact Nat.le_trans (fa.mono (k := k) (by omega) (by omega)) (fa.nxt k (by omega))
    · have : i = k + 1 := by omega
      subst this; exact Nat.le_refl _

theorem Fa.born_uniq {m : Nat} (fa : Fa hs m) {l i j : Nat} (hi : i < m) (hj : j < m) (h1 : born hs l i) (h2 : born hs l j) : i = j := by
  rcases Nat.lt_trichotomy i j with g | g | g
  · have := fa.mono (i := i + 1) (k := j) g (by omega)
    have := h1.2; have := h2.1; omega
  · exact g
  · have := fa.mono (i := j + 1) (k := i) g (by omega)
    have := h2.2; have := h1.1; omega

/-- One step of that run, seen from afar. -/
structure VS (C : Cfg) (ops : Array Oper) (hs : Nat → Heap) (es : Nat → Env) (i : Nat) : Prop where
  floor : (hs (i + 1)).floor = (hs i).floor
  chg : ∀ l, l < (hs i).next → (hs (i + 1)).blk l ≠ (hs i).blk l → hitS C ops es l i
  keep : ∀ l, l < (hs i).next → (∃ B, (hs (i + 1)).blk l = some B) → ∃ B, (hs i).blk l = some B
  nb : ∀ l, hitS C ops es l i → (hs (i + 1)).next = (hs i).next
  lo : ∀ l, l < (hs i).next → (hs (i + 1)).blk l ≠ (hs i).blk l → (hs i).floor ≤ l

theorem isS_not_isQ {o : Op} (h : isS o = true) : isQ o = false := by cases o <;> simp [isS, isQ] at h ⊢
theorem isL_not_isQ {o : Op} (h : isL o = true) : isQ o = false := by cases o <;> simp [isL, isQ] at h ⊢
theorem isL_not_isS {o : Op} (h : isL o = true) : isS o = false := by cases o <;> simp [isL, isS] at h ⊢

theorem vs_of (od : Ord ops) {n : Nat} (tr : Tr C call ops n0 hs es vs bs 0 n) {i : Nat} (hi : i < n) (bnd : ∀ l B, (hs i).blk l = some B → l < (hs i).next) : VS C ops hs es i := by
  obtain ⟨o, ho, _, hst, _, _⟩ := tr i (Nat.zero_le _) hi
  have one : ∀ l, hitS C ops es l i → isS o.op = true := fun l ⟨o', h1, h2, _⟩ => by rw [ho] at h1; injection h1 with h1; subst h1; exact h2
  unfold stepD at hst
  cases hq : isQ o.op with
  | true =>
    rw [hq, if_pos rfl] at hst
    unfold qrun at hst
    cases hg : guarded C call ops (es i) o ⟨fun l => if vis ops n0 (bs i) i l then (hs i).blk l else none, (hs i).next, (hs i).next⟩ with
    | none => rw [hg] at hst; cases hst
    | some x =>
      rw [hg] at hst
      simp only [Option.bind_some, Option.some.injEq, Prod.mk.injEq] at hst
      obtain ⟨_, hst⟩ := hst
      have e : ∀ l, l < (hs i).next → (hs (i + 1)).blk l = (hs i).blk l := fun l hl => by rw [← hst]; show (if l < (hs i).next then _ else _) = _; rw [if_pos hl]
      refine ⟨by rw [← hst], fun l hl h => absurd (e l hl) h, fun l hl h => by rwa [e l hl] at h, fun l h => ?_, fun l hl h => ?_⟩
      · have := isS_not_isQ (one l h)
        rw [hq] at this; cases this
      · exact absurd (e l ‹_›) ‹_›
  | false =>
    rw [hq, if_neg (by simp)] at hst
    obtain ⟨H2', _, lo⟩ := local_guarded (H2 := hs i) hq (od.ok i o ho) hst rfl (fun _ => rfl) (fun _ _ _ _ _ => rfl) bnd
    exact ⟨lo.floor, fun l hl h => by obtain ⟨h1, h2⟩ := lo.chg l hl h; exact ⟨o, ho, h1, h2⟩, lo.keep, fun l h => lo.nb (one l h), fun l hl h => by
      obtain ⟨h1, a, f, h2⟩ := lo.chg l hl h
      rcases lo.low l a f h1 h2 with h3 | h3
      · exact h3.1
      · rw [h3.1] at h; exact absurd rfl h⟩
end
end Go.Fv
