/-
  A region whose order is open: every order. By an AI agent; no person has read it.
-/
import Derived.Test.YtjjiphigolegbaaDoorFvDrawn2
set_option linter.unusedVariables false
set_option linter.unusedSimpArgs false
set_option linter.unusedSectionVars false
/-! A region whose order is open: every order. -/
namespace Go.Fv
open Go

section
variable {C : Cfg} {σ : Nat → Addr} {call : FuncId → List V → M V} {ops : Array Oper} {hs : Nat → Heap} {es : Nat → Env} {vs : Nat → V} {bs : Nat → List (Nat × Nat × Nat × V)} {N : Nat} {K0 : Ctx} {w0 : World}

theorem Base.bsAny (ba : Base C σ call ops hs es vs bs N K0 w0) (f : Nat × Nat × Nat × V → Bool) : ∀ j, j ≤ ops.size → ((bs j).any f = true ↔ ∃ i o, i < j ∧ ops[i]? = some o ∧ f (i, (hs i).next, (hs (i + 1)).next, ptrOf C (es i) o.op) = true)
  | 0, _ => by rw [ba.b0]; simp
  | j + 1, hj => by
    obtain ⟨o, ho, _, _, _, hb⟩ := ba.tr j (Nat.zero_le _) (by omega)
    rw [hb, List.any_cons, Bool.or_eq_true, ba.bsAny f j (by omega)]
    constructor
    · rintro (h | ⟨i, o', h1, h2, h3⟩)
      · exact ⟨j, o, Nat.lt_succ_self j, ho, h⟩
      · exact ⟨i, o', by omega, h2, h3⟩
    · rintro ⟨i, o', h1, h2, h3⟩
      by_cases e : i = j
      · subst e
        rw [ho] at h2; injection h2 with h2; subst h2
        exact .inl h3
      · exact .inr ⟨i, o', by omega, h2, h3⟩

theorem Base.ptrAt (ba : Base C σ call ops hs es vs bs N K0 w0) {i : Nat} {o : Oper} (ho : ops[i]? = some o) : ∀ j, i < j → j ≤ ops.size → Fv.ptrAt (bs j) i = ptrOf C (es i) o.op
  | 0, h, _ => by omega
  | j + 1, h, hj => by
    obtain ⟨o', ho', _, _, _, hb⟩ := ba.tr j (Nat.zero_le _) (by omega)
    rw [hb]
    unfold Fv.ptrAt
    by_cases e : j = i
    · subst e
      rw [ho] at ho'; injection ho' with ho'; subst ho'
      rw [if_pos rfl]
    · rw [if_neg e]
      exact ba.ptrAt ho j (by omega) (by omega)

theorem ev_rel {K : Ctx} {w : World} {env : Env} {a : Act} (gl : GlobOk C σ K w) (T : ∀ t, Rel σ K w (env t) (a.tmps.getD t Go.undef)) (x : Operand) : Rel σ K w (ev C env x) (a.eval x) := by
  cases x with
  | tmp t => exact T t
  | const v => exact rel_cstV v
  | global g =>
    show Rel σ K w (match C.G g with | some row => .iptr row 0 | none => .undef) _
    cases hk : C.G g with
    | none => exact .undef _
    | some row => exact gl.g g row hk
  | func f => exact .fn f [] #[] rfl (fun i a b h => by simp at h)

/-- What the operation 'j' may see of a block, in whatever order. -/
def Seen (C : Cfg) (ops : Array Oper) (hs : Nat → Heap) (es : Nat → Env) (S : Nat → Prop) (j l : Nat) : Prop :=
  ∃ k, k ≤ j ∧ Last S (hit C ops hs es l) k ∧ (hs j).blk l = (hs k).blk l ∧ ∀ i, S i → hit C ops hs es l i → bef ops j i = true

theorem seen_of (ba : Base C σ call ops hs es vs bs N K0 w0) {m : Nat} (fa : Fa hs m) {S : Nat → Prop} (hSm : ∀ i, S i → i < m) (hclo : ∀ j, S j → ∀ i, bef ops j i = true → S i)
    {j : Nat} (hjm : j ≤ m) (hjn : j < ops.size) (hj : ¬ S j) (hb : ∀ i, bef ops j i = true → S i) {l : Nat} (hd : dset K0 ops.size hs (fun i => bef ops j i = true) l)
    (h1 : ∀ i, i < j → hitS C ops es l i → bef ops j i = true) (h2 : ∀ i, S i → j < i → hitS C ops es l i → bef ops i j = true) : Seen C ops hs es S j l := by
  have hbo : ∀ i, i < m → born hs l i → bef ops j i = true := fun i hi hbi => by
    rcases hd with hd | ⟨i', _, q1, q2⟩
    · have := ba.D0 l hd
      have := fa.mono (Nat.zero_le i) (Nat.le_of_lt hi)
      have := hbi.1
      omega
    · have := bef_lt ba.od _ _ q1
      have := fa.born_uniq hi (by omega) hbi q2
      subst this; exact q1
  obtain ⟨k, k1, k2, _, k4, k5⟩ := sync (S := S) hclo hj hb (hit C ops hs es l) (fun i hi hh => hh.2.elim (fun h => hbo i (by omega) h) (h1 i hi))
    (fun i hS hi hh => hh.2.elim (fun h => by have := bef_lt ba.od _ _ (hbo i (hSm i hS) h); omega) (h2 i hS hi))
  refine ⟨k, k1, k2, ba.unch fa j k1 hjm (Nat.le_of_lt hjn) fun i hi hij hh => ?_, k5⟩
  have := k4 i hij hh
  omega

theorem inv_view (ba : Base C σ call ops hs es vs bs N K0 w0) {m : Nat} (fa : Fa hs m) {S : Nat → Prop} {I : Nat → Prop} {ρ : Nat → Nat × Nat × Nat} {a : Act} {w : World} (st : St C σ ops hs es N K0 w0 S I ρ a w)
    {j : Nat} (hjm : j ≤ m) (hb : ∀ i, bef ops j i = true → S i) {Hj : Heap} (hnx : Hj.next = (hs j).next) (hfl : Hj.floor ≤ Hj.next)
    (hv : ∀ l B, Hj.blk l = some B → (hs j).blk l = some B ∧ dset K0 ops.size hs (fun i => bef ops j i = true) l ∧ Seen C ops hs es S j l) :
    Inv σ ⟨I, ρ, (hs j).next, dset K0 ops.size hs fun i => bef ops j i = true⟩ Hj w := by
  refine ⟨hnx.symm, fun l h => dset_lt fa hjm ba.D0 (fun i hi => bef_lt ba.od j i hi) h, hfl, fun l B h => ?_, fun l l' B B' h h' he => ?_, st.imm⟩
  · obtain ⟨q1, q2, k, _, q3, q4, q5⟩ := hv l B h
    have hbl := st.blk l k B q3 (dset_mono hb q2) (by rw [← q4]; exact q1)
    refine hbl.move ⟨fun _ h => h, fun _ _ => rfl, fun l h => dset_mono (fun i ⟨i', p1, p2, p3⟩ => ?_) h, fun _ _ => rfl, fun b cs e f h => ⟨cs, f, h, rfl⟩⟩ rfl hbl.own
    rcases p3 with rfl | p3
    · exact q5 _ p1 p2
    · exact bef_trans ba.od _ _ _ (q5 _ p1 p2) p3
  · obtain ⟨q1, q2, k, _, q3, q4, _⟩ := hv l B h
    obtain ⟨g1, g2, k', _, g3, g4, _⟩ := hv l' B' h'
    exact st.inj l l' k k' B B' q3 g3 (dset_mono hb q2) (dset_mono hb g2) (by rw [← q4]; exact q1) (by rw [← g4]; exact g1) he

open Classical in
theorem stepAt (good : Good C σ) (SF : ∀ f, SoundF C σ f (call f)) (ba : Base C σ call ops hs es vs bs N K0 w0) {m : Nat} (fa : Fa hs m) {S : Nat → Prop} (hSm : ∀ i, S i → i < m) (hmn : m ≤ ops.size) {I : Nat → Prop} {ρ : Nat → Nat × Nat × Nat} {a : Act} {w : World}
    (st : St C σ ops hs es N K0 w0 S I ρ a w) {j : Nat} (hjm : j ≤ m) (hjn : j < ops.size) (hj : ¬ S j) (hb : ∀ i, bef ops j i = true → S i) {next : Act → World → Prop} {Q : Exit → Act → World → Prop}
    (k : ∀ a' w', ((hs j).next ≤ (hs (j + 1)).next ∧ ∀ l B, (hs (j + 1)).blk l = some B → l < (hs (j + 1)).next) ∧ (∃ I' ρ', St C σ ops hs es N K0 w0 (fun i => S i ∨ i = j) I' ρ' a' w') → next a' w') :
    wpOp C.P ops Q j next a w := by
  obtain ⟨o, ho, hcf, hst, _, _⟩ := ba.tr j (Nat.zero_le _) hjn
  have hclo : ∀ j, S j → ∀ i, bef ops j i = true → S i := fun j hj => (st.clo j hj).2
  have T : ∀ t, Rel σ ⟨I, ρ, (hs j).next, dset K0 ops.size hs fun i => bef ops j i = true⟩ w (mask (touches ops o) (es j) t) (a.tmps.getD t Go.undef) := fun t => by
    unfold mask
    by_cases ht : (touches ops o).contains t = true
    case neg => rw [if_neg ht]; exact .undef _
    rw [if_pos ht]
    obtain ⟨k, k1, k2, k3, k4, _⟩ := sync (S := S) hclo hj hb (wr ops t)
      (fun i hi ⟨o', h1, h2⟩ => ba.od.clash i j o' o hi h1 ho (by unfold clash; rw [h2]; simp only [ht, Bool.or_true, Bool.true_or]))
      (fun i _ hi ⟨o', h1, h2⟩ => ba.od.clash j i o o' hi ho h1 (by unfold clash; rw [h2]; simp only [ht, Bool.or_true]))
    rw [ba.esame j k1 (Nat.le_of_lt hjn) fun i hi hij hw => by have := k4 i hij hw; omega]
    refine (st.slot t k k2).mono ⟨fun _ h => h, fun _ _ => rfl, fun l h => dset_mono (fun i ⟨h1, h2⟩ => ?_) h, fun _ _ => rfl, fun b cs e f h => ⟨cs, f, h, rfl⟩⟩
    have k3 := k3.resolve_left h1
    rcases h2 with rfl | h2
    · exact k3
    · exact bef_trans ba.od _ _ _ k3 h2
  have gl : GlobOk C σ ⟨I, ρ, (hs j).next, dset K0 ops.size hs fun i => bef ops j i = true⟩ w := st.gl.sub fun _ h => h
  have dlow : ∀ l, dset K0 ops.size hs (fun i => bef ops j i = true) l → l < (hs j).next := fun l h => dset_lt fa hjm ba.D0 (fun i hi => bef_lt ba.od j i hi) h
  have oneS : ∀ l, hitS C ops es l j → isS o.op = true ∧ ∃ a f, ptrOf C (es j) o.op = .ptr l a f := fun l ⟨o', h1, h2, h3⟩ => by rw [ho] at h1; injection h1 with h1; subst h1; exact ⟨h2, h3⟩
  unfold stepD at hst
  cases hq : isQ o.op with
  | true =>
    rw [hq, if_pos rfl] at hst
    unfold qrun at hst
    cases hg : guarded C call ops (es j) o ⟨fun l => if vis ops (hs 0).next (bs j) j l then (hs j).blk l else none, (hs j).next, (hs j).next⟩ with
    | none => rw [hg] at hst; cases hst
    | some x =>
    rw [hg] at hst
    simp only [Option.bind_some, Option.some.injEq, Prod.mk.injEq] at hst
    obtain ⟨hv, hst⟩ := hst
    have noS : ∀ l, ¬ hitS C ops es l j := fun l h => by have := isS_not_isQ (oneS l h).1; rw [hq] at this; cases this
    have view : ∀ l B, (if vis ops (hs 0).next (bs j) j l then (hs j).blk l else none) = some B → (hs j).blk l = some B ∧ dset K0 ops.size hs (fun i => bef ops j i = true) l ∧ Seen C ops hs es S j l := fun l B h => by
      by_cases hvis : vis ops (hs 0).next (bs j) j l = true
      case neg => rw [if_neg hvis] at h; cases h
      rw [if_pos hvis] at h
      have hd : dset K0 ops.size hs (fun i => bef ops j i = true) l := by
        unfold vis at hvis
        rw [Bool.or_eq_true, ba.bsAny _ j (Nat.le_of_lt hjn)] at hvis
        rcases hvis with hl | ⟨i, o', h1, h2, h3⟩
        · obtain ⟨B0, hB0⟩ := ba.back fa (of_decide_eq_true hl) j hjm (Nat.le_of_lt hjn) ⟨B, h⟩
          exact .inl (ba.inv0.blk l B0 hB0).lt
        · simp only [Bool.and_eq_true, decide_eq_true_eq] at h3
          exact .inr ⟨i, by omega, h3.2, h3.1⟩
      refine ⟨h, hd, seen_of ba fa hSm hclo hjm hjn hj hb hd (fun i hi ⟨o', h1, h2, _⟩ => ba.od.clash i j o' o hi h1 ho (by unfold clash; rw [h2, hq]; simp)) (fun i _ hi ⟨o', h1, h2, _⟩ => ba.od.clash j i o o' hi ho h1 (by unfold clash; rw [h2, hq]; simp))⟩
    have inv := inv_view ba fa st hjm hb (Hj := ⟨fun l => if vis ops (hs 0).next (bs j) j l then (hs j).blk l else none, (hs j).next, (hs j).next⟩) rfl (Nat.le_refl _) view
    rw [guarded_mask] at hg
    refine ok_guarded good SF inv gl T ho hg fun y w' ld => k _ _ ?_
    rw [hv] at ld
    have eb : ∀ l, (hs (j + 1)).blk l = if l < (hs j).next then (hs j).blk l else x.2.blk l := fun l => by rw [← hst]
    refine advance ba fa hSm st hjm hjn hj hb ho inv ld (by rw [← hst]) (fun l h => ?_) (fun l h => ?_) (fun l h => absurd h (noS l)) (fun l B h hl => ?_) (fun l h => absurd h (noS l))
    · rw [eb, if_neg (by have := h.1; omega)]
    · rw [eb]
      by_cases hl : l < (hs j).next
      · rw [if_pos hl]; exact .inr rfl
      · rw [if_neg hl]; exact .inl rfl
    · have := dlow l (view l B h).2.1
      have hl' : (hs j).next ≤ l := hl
      omega
  | false =>
    rw [hq, if_neg (by simp)] at hst
    have ptrD : ∀ l a' f, ptrOf C (es j) o.op = .ptr l a' f → dset K0 ops.size hs (fun i => bef ops j i = true) l := fun l a' f hp => by
      rw [← ptrOf_mask (ops := ops)] at hp
      have fin : ∀ x, ev C (mask (touches ops o) (es j)) x = .ptr l a' f → dset K0 ops.size hs (fun i => bef ops j i = true) l := fun x hx => by
        have := ev_rel gl T x
        rw [hx] at this
        generalize a.eval x = y at this
        cases this with
        | ptr _ _ _ b off sz hl hρ => exact hl
      cases hop : o.op <;> rw [hop] at hp <;> first
        | exact fin _ hp
        | cases hp
    have seen : ∀ l a' f, (isL o.op = true ∨ isS o.op = true) → ptrOf C (es j) o.op = .ptr l a' f → Seen C ops hs es S j l := fun l a' f hls hp => by
      refine seen_of ba fa hSm hclo hjm hjn hj hb (ptrD l a' f hp) (fun i hi ⟨o', h1, h2, a2, f2, h3⟩ => ?_) (fun i hS hi ⟨o', h1, h2, a2, f2, h3⟩ => ?_)
      · rcases hls with hl | hs'
        · cases hbf : bef ops j i with
          | true => rfl
          | false =>
            have hmem : i ∈ conf ops j := by
              unfold conf
              rw [List.mem_filter]
              refine ⟨List.mem_range.2 hi, ?_⟩
              rw [h1, ho]
              simp only [h2, hl, hbf, Bool.and_true, Bool.true_and, Bool.not_false, Bool.true_or]
            have := List.all_eq_true.1 hcf i hmem
            rw [ba.ptrAt h1 j hi (Nat.le_of_lt hjn), h3, hp] at this
            simp [apartV] at this
        · exact ba.od.clash i j o' o hi h1 ho (by unfold clash; rw [h2, hs']; simp)
      · rcases hls with hl | hs'
        · cases hbf : bef ops i j with
          | true => rfl
          | false =>
            have him := (st.clo i hS).1
            obtain ⟨o2, ho2, hcf2, _⟩ := ba.tr i (Nat.zero_le _) him
            rw [h1] at ho2; injection ho2 with ho2; subst ho2
            have hmem : j ∈ conf ops i := by
              unfold conf
              rw [List.mem_filter]
              refine ⟨List.mem_range.2 hi, ?_⟩
              rw [h1, ho]
              simp only [h2, hl, hbf, Bool.and_true, Bool.not_false, Bool.or_true]
            have := List.all_eq_true.1 hcf2 j hmem
            rw [ba.ptrAt ho i hi (Nat.le_of_lt him), h3, hp] at this
            simp [apartV] at this
        · exact ba.od.clash j i o o' hi ho h1 (by unfold clash; rw [h2, hs']; simp)
    have hfloor : (hs j).floor ≤ (hs j).next := by
      rw [ba.floor fa j hjm (Nat.le_of_lt hjn)]
      exact Nat.le_trans ba.inv0.flo (fa.mono (Nat.zero_le j) hjm)
    let Hj : Heap := ⟨fun l => if (isL o.op = true ∨ isS o.op = true) ∧ ∃ a f, ptrOf C (es j) o.op = .ptr l a f then (hs j).blk l else none, (hs j).next, if isS o.op = true then (hs j).floor else (hs j).next⟩
    have hjb : ∀ l, Hj.blk l = if (isL o.op = true ∨ isS o.op = true) ∧ ∃ a f, ptrOf C (es j) o.op = .ptr l a f then (hs j).blk l else none := fun _ => rfl
    have inv : Inv σ ⟨I, ρ, (hs j).next, dset K0 ops.size hs fun i => bef ops j i = true⟩ Hj w := inv_view ba fa st hjm hb rfl (by show (if isS o.op = true then _ else _) ≤ _; split <;> first | exact hfloor | exact Nat.le_refl _) fun l B h => by
      rw [hjb] at h
      split at h
      · rename_i hc
        obtain ⟨hls, a', f, hp⟩ := hc
        exact ⟨h, ptrD l a' f hp, seen l a' f hls hp⟩
      · cases h
    obtain ⟨H2', hg, lo⟩ := local_guarded (H2 := Hj) hq (ba.od.ok j o ho) hst rfl (fun h => by show (if isS o.op = true then _ else _) = _; rw [if_pos h]) (fun l a' f hls hp => by rw [hjb, if_pos ⟨hls, a', f, hp⟩]) (fa.bnd j hjm)
    rw [guarded_mask] at hg
    refine ok_guarded good SF inv gl T ho hg fun y w' ld => k _ _ ?_
    refine advance ba fa hSm st hjm hjn hj hb ho inv ld lo.next (fun l h => lo.new l h.1 h.2) (fun l h => .inr (lo.out l h)) (fun l h => ?_) (fun l B h hl => ?_) (fun l h => ?_)
    · obtain ⟨h1, a', f, h2⟩ := oneS l h
      exact ⟨lo.at_ l a' f h1 h2, ptrD l a' f h2⟩
    · rw [hjb] at h
      split at h
      · rename_i hc
        obtain ⟨hls, a', f, hp⟩ := hc
        by_cases hs' : isS o.op = true
        · refine ⟨⟨o, ho, hs', a', f, hp⟩, ?_, B, h⟩
          have hl' : (if isS o.op = true then (hs j).floor else (hs j).next) ≤ l := hl
          rw [if_pos hs', ba.floor fa j hjm (Nat.le_of_lt hjn)] at hl'
          exact hl'
        · have hl' : (if isS o.op = true then (hs j).floor else (hs j).next) ≤ l := hl
          rw [if_neg hs'] at hl'
          have := dlow l (ptrD l a' f hp)
          omega
      · cases h
    · obtain ⟨h1, a', f, h2⟩ := oneS l h
      exact seen l a' f (.inr h1) h2

/-- From a step's statement to a step. -/
theorem wpOp_ex {P : Program} {i : Nat} {next : Act → World → Prop} {a : Act} {w : World} (h : wpOp P ops (fun _ _ _ => False) i next a w) : ∃ a' w', next a' w' := by
  unfold wpOp at h
  split at h
  · exact ⟨_, _, h⟩
  · rename_i o _
    split at h
    · rcases h with h | ⟨_, h⟩
      · unfold Oper.wp at h
        cases hr : (execOp a.eval o).run P w with
        | ok nx w' =>
          rw [hr] at h
          cases nx <;> simp only [Oper.upon] at h <;> first
            | exact h.elim
            | exact ⟨_, _, h⟩
            | (obtain ⟨e, w'', fr, hR, _⟩ := h []
               cases e with
               | returned v => exact ⟨_, _, hR⟩
               | panicked c => exact hR.elim
               | outgrown => obtain ⟨_, _, hR⟩ := hR; exact hR.elim)
            | (obtain ⟨v, w'', hR, _⟩ := h default []
               exact ⟨_, _, hR⟩)
        | halt x w' =>
          rw [hr] at h
          cases x <;> exact h.elim
      · obtain ⟨_, _, h⟩ := h; exact h.elim
    · exact ⟨_, _, h⟩

theorem st_zero {I : Nat → Prop} (ba : Base C σ call ops hs es vs bs N K0 w0) {a : Act} (gl : GlobOk C σ K0 w0) (er : EnvRel σ K0 w0 N (es 0) a) : St C σ ops hs es N K0 w0 (fun _ => False) K0.I K0.ρ a w0 where
  clo := fun j h => h.elim
  slot := fun t k hL => by
    rcases hL.1 with rfl | ⟨h, _⟩
    · exact (er.tmp t).mono ⟨fun _ h => h, fun _ _ => rfl, fun l h => .inl h, fun _ _ => rfl, fun b cs e f h => ⟨cs, f, h, rfl⟩⟩
    · exact h.elim
  blk := fun l k B hL hd hB => by
    rcases hL.1 with rfl | ⟨h, _⟩
    · have hbl := ba.inv0.blk l B hB
      exact hbl.move ⟨fun _ h => h, fun _ _ => rfl, fun l h => .inl h, fun _ _ => rfl, fun b cs e f h => ⟨cs, f, h, rfl⟩⟩ rfl hbl.own
    · exact h.elim
  inj := fun l l' k k' B B' hL hL' hd hd' hB hB' he => by
    rcases hL.1 with rfl | ⟨h, _⟩
    · rcases hL'.1 with rfl | ⟨h, _⟩
      · exact ba.inv0.inj l l' B B' hB hB' he
      · exact h.elim
    · exact h.elim
  imm := ba.inv0.imm
  I0 := fun _ h => h
  newI := fun _ h _ => h
  ρ0 := fun _ _ => rfl
  fresh := fun l k B hn _ hd _ => by
    rcases hd with hd | ⟨_, _, h, _⟩
    · exact absurd hd hn
    · exact h.elim
  gl := gl.sub fun _ h => h
  tgt := fun _ _ h => h.elim
  frame := fun _ _ _ => rfl
  shape := fun b cs e f h => ⟨cs, f, h, rfl⟩
  size := Nat.le_refl _
  os := rfl
  tape := rfl
  output := rfl
  tsz := er.size
  dfr := er.defers

/-- All the facts: the run in the order of the text is one of the orders. -/
theorem fa_all (good : Good C σ) (SF : ∀ f, SoundF C σ f (call f)) (ba : Base C σ call ops hs es vs bs N K0 w0) {a : Act} (gl : GlobOk C σ K0 w0) (er : EnvRel σ K0 w0 N (es 0) a) :
    ∀ m, m ≤ ops.size → Fa hs m ∧ ∃ I ρ a' w', St C σ ops hs es N K0 w0 (fun i => i < m) I ρ a' w'
  | 0, _ => by
    refine ⟨⟨fun j h => by omega, fun j h l B hB => ?_⟩, K0.I, K0.ρ, a, w0, ?_⟩
    · have : j = 0 := by omega
      subst this
      exact ba.D0 l (ba.inv0.blk l B hB).lt
    · have := st_zero (I := K0.I) ba gl er
      have e : (fun i : Nat => i < 0) = fun _ => False := by funext i; simp
      rw [e]; exact this
  | m + 1, hm => by
    obtain ⟨fa, I, ρ, a', w', st⟩ := fa_all good SF ba gl er m (by omega)
    obtain ⟨a2, w2, ⟨q1, q2⟩, I', ρ', q3⟩ := wpOp_ex (stepAt good SF ba fa (S := fun i => i < m) (fun _ h => h) (by omega) st (j := m) (Nat.le_refl _) hm (Nat.lt_irrefl _) (fun i hi => bef_lt ba.od _ _ hi) (fun _ _ h => h))
    refine ⟨⟨fun j hj => ?_, fun j hj l B hB => ?_⟩, I', ρ', a2, w2, ?_⟩
    · rcases Nat.lt_or_ge j m with g | g
      · exact fa.nxt j g
      · have : j = m := by omega
        subst this; exact q1
    · rcases Nat.lt_or_ge j (m + 1) with g | g
      · exact fa.bnd j (by omega) l B hB
      · have : j = m + 1 := by omega
        subst this; exact q2 l B hB
    · have e : (fun i : Nat => i < m + 1) = fun i => i < m ∨ i = m := by funext i; apply propext; omega
      rw [e]; exact q3
end
end Go.Fv
