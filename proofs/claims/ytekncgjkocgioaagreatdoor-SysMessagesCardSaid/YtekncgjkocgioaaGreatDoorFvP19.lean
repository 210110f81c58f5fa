/-
  A region whose order is open: every order. By an AI agent; no person has read it.
-/
import Derived.Test.YtekncgjkocgioaaGreatDoorFvP18
set_option linter.unusedVariables false
set_option linter.unusedSimpArgs false
set_option linter.unusedSectionVars false
/-! A region whose order is open: every order. -/
namespace Go.Fv
open Go
section
variable {C:Cfg} {σ:Nat → Addr} {call:FuncId → List V → M V} {ops:Array Oper} {hs:Nat → Heap} {es:Nat → Env} {vs:Nat → V} {bs:Nat → List (Nat × Nat × Nat × V)} {N:Nat} {K0:Ctx} {w0:World}
theorem Base.ptrAt (ba : Base C σ call ops hs es vs bs N K0 w0) {i : Nat} {o : Oper} (ho : ops[i]? = some o) : ∀ j, i < j → j ≤ ops.size → Fv.ptrAt (bs j) i = ptrOf C (es i) o.op
  | 0,h,_ => by omega
  | j + 1, h, hj => by
    obtain ⟨o',ho',_,_,_,hb⟩:=ba.tr j (Nat.zero_le _) (by omega)
    rw [hb]
    unfold Fv.ptrAt
    by_cases e:j = i
    · subst e
      rw [ho] at ho'; injection ho' with ho'; subst ho'
      rw [if_pos rfl]
    · rw [if_neg e]
      exact ba.ptrAt ho j (by omega) (by omega)
theorem ev_rel {K : Ctx} {w : World} {env : Env} {a : Act} (gl : GlobOk C σ K w) (T : ∀ t, Rel σ K w (env t) (a.tmps.getD t Go.undef)) (x : Operand) : Rel σ K w (ev C env x) (a.eval x) := by
  cases x with
  | tmp t => exact T t
  | const v => exact rel_cstV v
  | global g =>
    show Rel σ K w (match C.G g with | some row => .iptr row 0 | none => .undef) _
    cases hk:C.G g with
    | none => exact .undef _
    | some row => exact gl.g g row hk
  | func f => exact .fn f [] #[] rfl (fun i a b h => by simp at h)
def Seen (C:Cfg) (ops:Array Oper) (hs:Nat → Heap) (es:Nat → Env) (S:Nat → Prop) (j l:Nat):Prop :=
 ∃ k,k ≤ j ∧ Last S (hit C ops hs es l) k ∧ (hs j).blk l = (hs k).blk l ∧ ∀ i,S i → hit C ops hs es l i → bef ops j i = true
theorem seen_of (ba:Base C σ call ops hs es vs bs N K0 w0) {m:Nat} (fa:Fa hs m) {S:Nat → Prop} (hSm:∀ i,S i → i < m) (hclo:∀ j,S j → ∀ i,bef ops j i = true → S i)
  {j:Nat} (hjm:j ≤ m) (hjn:j < ops.size) (hj:¬ S j) (hb:∀ i,bef ops j i = true → S i) {l:Nat} (hd:dset K0 ops.size hs (fun i => bef ops j i = true) l)
  (h1:∀ i,i < j → hitS C ops hs es l i → bef ops j i = true) (h2:∀ i,S i → j < i → hitS C ops hs es l i → bef ops i j = true):Seen C ops hs es S j l:=by
 have hbo:∀ i,i < m → born hs l i → bef ops j i = true:=fun i hi hbi => by
  rcases hd with hd | ⟨i',_,q1,q2⟩
  ·have:=ba.D0 l hd
   have:=fa.mono (Nat.zero_le i) (Nat.le_of_lt hi)
   have:=hbi.1
   omega
  ·have:=bef_lt ba.od _ _ q1
   have:=fa.born_uniq hi (by omega) hbi q2
   subst this; exact q1
 obtain ⟨k,k1,k2,_,k4,k5⟩:=sync (S:=S) hclo hj hb (hit C ops hs es l) (fun i hi hh => hh.2.elim (fun h => hbo i (by omega) h) (h1 i hi))
  (fun i hS hi hh => hh.2.elim (fun h => by have:=bef_lt ba.od _ _ (hbo i (hSm i hS) h); omega) (h2 i hS hi))
 refine ⟨k,k1,k2,ba.unch fa j k1 hjm (Nat.le_of_lt hjn) fun i hi hij hh => ?_,k5⟩
 have:=k4 i hij hh
 omega
theorem inv_view (ba:Base C σ call ops hs es vs bs N K0 w0) {m:Nat} (fa:Fa hs m) {S:Nat → Prop} {I:Nat → Prop} {ρ:Nat → Nat × Nat × Nat} {a:Act} {w:World} (st:St C σ ops hs es N K0 w0 S I ρ a w)
  {j:Nat} (hjm:j ≤ m) (hb:∀ i,bef ops j i = true → S i) {Hj:Heap} (hnx:Hj.next = (hs j).next) (hfl:Hj.floor ≤ Hj.next)
  (hv:∀ l B,Hj.blk l = some B → (hs j).blk l = some B ∧ dset K0 ops.size hs (fun i => bef ops j i = true) l ∧ Seen C ops hs es S j l) :
  Inv σ ⟨I,ρ,(hs j).next,dset K0 ops.size hs fun i => bef ops j i = true⟩ Hj w:=by
 refine ⟨hnx.symm,fun l h => dset_lt fa hjm ba.D0 (fun i hi => bef_lt ba.od j i hi) h,hfl,fun l B h => ?_,fun l l' B B' h h' he => ?_,st.imm⟩
 ·obtain ⟨q1,q2,k,_,q3,q4,q5⟩:=hv l B h
  have hbl:=st.blk l k B q3 (dset_mono hb q2) (by rw [← q4]; exact q1)
  refine hbl.move ⟨fun _ h => h,fun _ _ => rfl,fun l h => dset_mono (fun i ⟨i',p1,p2,p3⟩ => ?_) h,fun _ _ => rfl,fun b cs e f h => ⟨cs,f,h,rfl⟩⟩ rfl hbl.own
  rcases p3 with rfl | p3
  ·exact q5 _ p1 p2
  ·exact bef_trans ba.od _ _ _ (q5 _ p1 p2) p3
 ·obtain ⟨q1,q2,k,_,q3,q4,_⟩:=hv l B h
  obtain ⟨g1,g2,k',_,g3,g4,_⟩:=hv l' B' h'
  exact st.inj l l' k k' B B' q3 g3 (dset_mono hb q2) (dset_mono hb g2) (by rw [← q4]; exact q1) (by rw [← g4]; exact g1) he
open Classical in
theorem stepAt (good : Good C σ) (SF : ∀ f, SoundF C σ f (call f)) (ba : Base C σ call ops hs es vs bs N K0 w0) {m : Nat} (fa : Fa hs m) {S : Nat → Prop} (hSm : ∀ i, S i → i < m) (hmn : m ≤ ops.size) {I : Nat → Prop} {ρ : Nat → Nat × Nat × Nat} {a : Act} {w : World}
    (st:St C σ ops hs es N K0 w0 S I ρ a w) {j:Nat} (hjm:j ≤ m) (hjn:j < ops.size) (hj:¬ S j) (hb:∀ i,bef ops j i = true → S i) {next:Act → World → Prop} {Q:Exit → Act → World → Prop}
    (k:∀ a' w',((hs j).next ≤ (hs (j + 1)).next ∧ ∀ l B,(hs (j + 1)).blk l = some B → l < (hs (j + 1)).next) ∧ (∃ I' ρ',St C σ ops hs es N K0 w0 (fun i => S i ∨ i = j) I' ρ' a' w') → next a' w') :
    wpOp C.P ops Q j next a w:=by
  obtain ⟨o,ho,hcf,hst,_,_⟩:=ba.tr j (Nat.zero_le _) hjn
  have hclo:∀ j,S j → ∀ i,bef ops j i = true → S i:=fun j hj => (st.clo j hj).2
  have T : ∀ t, Rel σ ⟨I, ρ, (hs j).next, dset K0 ops.size hs fun i => bef ops j i = true⟩ w (mask (touches ops o) (es j) t) (a.tmps.getD t Go.undef) := fun t => by
    unfold mask
    by_cases ht:(touches ops o).contains t = true
    case neg => rw [if_neg ht]; exact .undef _
    rw [if_pos ht]
    obtain ⟨k, k1, k2, k3, k4, _⟩ := sync (S := S) hclo hj hb (wr ops t)
      (fun i hi ⟨o',h1,h2⟩ => ba.od.clash i j o' o hi h1 ho (by unfold clash; rw [h2]; simp only [ht,Bool.or_true,Bool.true_or]))
      (fun i _ hi ⟨o',h1,h2⟩ => ba.od.clash j i o o' hi ho h1 (by unfold clash; rw [h2]; simp only [ht,Bool.or_true]))
    rw [ba.esame j k1 (Nat.le_of_lt hjn) fun i hi hij hw => by have:=k4 i hij hw; omega]
    refine (st.slot t k k2).mono ⟨fun _ h => h,fun _ _ => rfl,fun l h => dset_mono (fun i ⟨h1,h2⟩ => ?_) h,fun _ _ => rfl,fun b cs e f h => ⟨cs,f,h,rfl⟩⟩
    have k3:=k3.resolve_left h1
    rcases h2 with rfl | h2
    · exact k3
    · exact bef_trans ba.od _ _ _ k3 h2
  have gl:GlobOk C σ ⟨I,ρ,(hs j).next,dset K0 ops.size hs fun i => bef ops j i = true⟩ w:=st.gl.sub fun _ h => h
  have dlow:∀ l,dset K0 ops.size hs (fun i => bef ops j i = true) l → l < (hs j).next:=fun l h => dset_lt fa hjm ba.D0 (fun i hi => bef_lt ba.od j i hi) h
  have cmpL : ∀ i, i < j → isT C ops i = true → (isQ o.op = true ∨ isS o.op = true ∨ isL o.op = true) → bef ops j i = true := fun i hi hT hm => by
    rcases isT_cmp hT ho hm (by omega) with h | h
    · have:=bef_lt ba.od _ _ h; omega
    · exact h
  have cmpR : ∀ i, j < i → isT C ops i = true → (isQ o.op = true ∨ isS o.op = true ∨ isL o.op = true) → bef ops i j = true := fun i hi hT hm => by
    rcases isT_cmp hT ho hm (by omega) with h | h
    · exact h
    · have:=bef_lt ba.od _ _ h; omega
  have view : isQ o.op = true → ∀ l B, (if vis ops (hs 0).next (bs j) j l then (hs j).blk l else none) = some B → (hs j).blk l = some B ∧ dset K0 ops.size hs (fun i => bef ops j i = true) l ∧ Seen C ops hs es S j l := fun hq l B h => by
    by_cases hvis:vis ops (hs 0).next (bs j) j l = true
    case neg => rw [if_neg hvis] at h; cases h
    rw [if_pos hvis] at h
    have hd : dset K0 ops.size hs (fun i => bef ops j i = true) l := by
      rcases visP_of ba.tr ba.b0 (Nat.le_of_lt hjn) hvis with hl | ⟨i,h1,h2,h3⟩
      · obtain ⟨B0,hB0⟩:=ba.back fa hl j hjm (Nat.le_of_lt hjn) ⟨B,h⟩
        exact .inl (ba.inv0.blk l B0 hB0).lt
      · exact .inr ⟨i,by omega,h1,h3⟩
    refine ⟨h,hd,seen_of ba fa hSm hclo hjm hjn hj hb hd (fun i hi hh => ?_) (fun i _ hi hh => ?_)⟩
    · rcases hh with ⟨o',h1,h2,_⟩ | ⟨hT,_⟩
      · exact ba.od.clash i j o' o hi h1 ho (by unfold clash; rw [h2,hq]; simp)
      · exact cmpL i hi hT (.inl hq)
    · rcases hh with ⟨o',h1,h2,_⟩ | ⟨hT,_⟩
      · exact ba.od.clash j i o o' hi ho h1 (by unfold clash; rw [h2,hq]; simp)
      · exact cmpR i hi hT (.inl hq)
  have flo:(hs j).floor = (hs 0).floor:=ba.floor fa j hjm (Nat.le_of_lt hjn)
  have hfloor : (hs j).floor ≤ (hs j).next := by
    rw [flo]
    exact Nat.le_trans ba.inv0.flo (fa.mono (Nat.zero_le j) hjm)
  unfold stepD at hst
  cases hT:isT C ops j with
  | true =>
    rw [hT,if_pos rfl] at hst
    unfold trun at hst
    have hq : isQ o.op = true := by
      obtain ⟨o',h1,h2⟩:=isT_some hT
      rw [ho] at h1; injection h1 with h1; subst h1; exact h2
    cases hg:guarded C call ops (es j) o ⟨fun l => if vis ops (hs 0).next (bs j) j l then (hs j).blk l else none,(hs j).next,(hs j).floor⟩ with
    | none => rw [hg] at hst; cases hst
    | some x =>
    rw [hg] at hst
    simp only [Option.bind_some,Option.some.injEq,Prod.mk.injEq] at hst
    obtain ⟨hv,hst⟩:=hst
    have inv:=inv_view ba fa st hjm hb (Hj:=⟨fun l => if vis ops (hs 0).next (bs j) j l then (hs j).blk l else none,(hs j).next,(hs j).floor⟩) rfl hfloor (view hq)
    rw [guarded_mask] at hg
    refine ok_guarded good SF inv gl T ho hg fun y w' ld => k _ _ ?_
    rw [hv] at ld
    have hitT : ∀ l, hitS C ops hs es l j → (hs 0).floor ≤ l ∧ vis ops (hs 0).next (bs j) j l = true ∧ ∃ B, (hs j).blk l = some B := fun l hh => by
      rcases hh with ⟨o',h1,h2,_⟩ | ⟨_,h1,h2,h3⟩
      · rw [ho] at h1; injection h1 with h1; subst h1
        have:=isS_not_isQ h2
        rw [hq] at this; cases this
      · exact ⟨h1,vis_of ba.tr ba.b0 (Nat.le_of_lt hjn) h2,h3⟩
    have eb:∀ l,(hs (j + 1)).blk l = if l < (hs j).next then (if vis ops (hs 0).next (bs j) j l && decide ((hs j).floor ≤ l) && ((hs j).blk l).isSome then x.2.blk l else (hs j).blk l) else x.2.blk l:=fun l => by rw [← hst]
    refine advance ba fa hSm st hjm hjn hj hb ho inv ld (by rw [← hst]) (fun l h => ?_) (fun l h => ?_) (fun l h => ?_) (fun l B h hl => ?_) (fun l h => ?_)
    · rw [eb,if_neg (by have:=h.1; omega)]
    · rw [eb]
      by_cases hl:l < (hs j).next
      · rw [if_pos hl]
        split
        · exact .inl rfl
        · exact .inr rfl
      · rw [if_neg hl]; exact .inl rfl
    · obtain ⟨h1,h2,B,h3⟩:=hitT l h
      obtain ⟨_,hd,_⟩:=view hq l B (by rw [if_pos h2]; exact h3)
      refine ⟨?_,hd⟩
      rw [eb,if_pos (dlow l hd),h2,h3,flo,decide_eq_true h1]
      rfl
    · by_cases hvis : vis ops (hs 0).next (bs j) j l = true
      case neg => exact absurd h (by show ¬ (if _ then _ else _) = _; rw [if_neg hvis]; simp)
      have h' : (hs j).blk l = some B := by
        have h2:(if vis ops (hs 0).next (bs j) j l then (hs j).blk l else none) = some B:=h
        rwa [if_pos hvis] at h2
      have hl':(hs j).floor ≤ l:=hl
      rw [flo] at hl'
      exact ⟨.inr ⟨hT,hl',visP_of ba.tr ba.b0 (Nat.le_of_lt hjn) hvis,B,h'⟩,hl',B,h'⟩
    · obtain ⟨h1,h2,B,h3⟩:=hitT l h
      exact (view hq l B (by rw [if_pos h2]; exact h3)).2.2
  | false =>
  rw [hT,if_neg (by simp)] at hst
  have oneS : ∀ l, hitS C ops hs es l j → isS o.op = true ∧ ∃ a f, ptrOf C (es j) o.op = .ptr l a f := fun l hh => by
    rcases hh with ⟨o',h1,h2,h3⟩ | ⟨h1,_⟩
    · rw [ho] at h1; injection h1 with h1; subst h1; exact ⟨h2,h3⟩
    · rw [hT] at h1; cases h1
  cases hq:isQ o.op with
  | true =>
    rw [hq,if_pos rfl] at hst
    unfold qrun at hst
    cases hg:guarded C call ops (es j) o ⟨fun l => if vis ops (hs 0).next (bs j) j l then (hs j).blk l else none,(hs j).next,(hs j).next⟩ with
    | none => rw [hg] at hst; cases hst
    | some x =>
    rw [hg] at hst
    simp only [Option.bind_some,Option.some.injEq,Prod.mk.injEq] at hst
    obtain ⟨hv,hst⟩:=hst
    have noS:∀ l,¬ hitS C ops hs es l j:=fun l h => by have:=isS_not_isQ (oneS l h).1; rw [hq] at this; cases this
    have inv:=inv_view ba fa st hjm hb (Hj:=⟨fun l => if vis ops (hs 0).next (bs j) j l then (hs j).blk l else none,(hs j).next,(hs j).next⟩) rfl (Nat.le_refl _) (view hq)
    rw [guarded_mask] at hg
    refine ok_guarded good SF inv gl T ho hg fun y w' ld => k _ _ ?_
    rw [hv] at ld
    have eb:∀ l,(hs (j + 1)).blk l = if l < (hs j).next then (hs j).blk l else x.2.blk l:=fun l => by rw [← hst]
    refine advance ba fa hSm st hjm hjn hj hb ho inv ld (by rw [← hst]) (fun l h => ?_) (fun l h => ?_) (fun l h => absurd h (noS l)) (fun l B h hl => ?_) (fun l h => absurd h (noS l))
    · rw [eb,if_neg (by have:=h.1; omega)]
    · rw [eb]
      by_cases hl:l < (hs j).next
      · rw [if_pos hl]; exact .inr rfl
      · rw [if_neg hl]; exact .inl rfl
    · have:=dlow l (view hq l B h).2.1
      have hl':(hs j).next ≤ l:=hl
      omega
  | false =>
    rw [hq,if_neg (by simp)] at hst
    cases hm:memConv C.P o.op with
    | true => rw [hm,if_pos rfl] at hst; cases hst
    | false =>
    rw [hm,if_neg (by simp)] at hst
    have ptrD : ∀ l a' f, ptrOf C (es j) o.op = .ptr l a' f → dset K0 ops.size hs (fun i => bef ops j i = true) l := fun l a' f hp => by
      rw [← ptrOf_mask (ops:=ops)] at hp
      have fin : ∀ x, ev C (mask (touches ops o) (es j)) x = .ptr l a' f → dset K0 ops.size hs (fun i => bef ops j i = true) l := fun x hx => by
        have:=ev_rel gl T x
        rw [hx] at this
        generalize a.eval x = y at this
        cases this with
        | ptr _ _ _ b off sz hl hρ => exact hl
      cases hop : o.op <;> rw [hop] at hp <;> first
        | exact fin _ hp
        | cases hp
    have seen : ∀ l a' f, (isL o.op = true ∨ isS o.op = true) → ptrOf C (es j) o.op = .ptr l a' f → Seen C ops hs es S j l := fun l a' f hls hp => by
      refine seen_of ba fa hSm hclo hjm hjn hj hb (ptrD l a' f hp) (fun i hi hh => ?_) (fun i hS hi hh => ?_)
      · rcases hh with ⟨o', h1, h2, a2, f2, h3⟩ | ⟨hTi, _⟩
        case inr => exact cmpL i hi hTi (.inr hls.symm)
        rcases hls with hl | hs'
        · cases hbf : bef ops j i with
          | true => rfl
          | false =>
            have hmem : i ∈ conf ops j := by
              unfold conf
              rw [List.mem_filter]
              refine ⟨List.mem_range.2 hi,?_⟩
              rw [h1,ho]
              simp only [h2,hl,hbf,Bool.and_true,Bool.true_and,Bool.not_false,Bool.true_or]
            have:=List.all_eq_true.1 hcf i hmem
            rw [ba.ptrAt h1 j hi (Nat.le_of_lt hjn),h3,hp] at this
            simp [apartV] at this
        · exact ba.od.clash i j o' o hi h1 ho (by unfold clash; rw [h2,hs']; simp)
      · rcases hh with ⟨o', h1, h2, a2, f2, h3⟩ | ⟨hTi, _⟩
        case inr => exact cmpR i hi hTi (.inr hls.symm)
        rcases hls with hl | hs'
        · cases hbf : bef ops i j with
          | true => rfl
          | false =>
            have him:=(st.clo i hS).1
            obtain ⟨o2,ho2,hcf2,_⟩:=ba.tr i (Nat.zero_le _) him
            rw [h1] at ho2; injection ho2 with ho2; subst ho2
            have hmem : j ∈ conf ops i := by
              unfold conf
              rw [List.mem_filter]
              refine ⟨List.mem_range.2 hi,?_⟩
              rw [h1,ho]
              simp only [h2,hl,hbf,Bool.and_true,Bool.not_false,Bool.or_true]
            have:=List.all_eq_true.1 hcf2 j hmem
            rw [ba.ptrAt ho i hi (Nat.le_of_lt him),h3,hp] at this
            simp [apartV] at this
        · exact ba.od.clash j i o o' hi ho h1 (by unfold clash; rw [h2,hs']; simp)
    let Hj:Heap:=⟨fun l => if (isL o.op = true ∨ isS o.op = true) ∧ ∃ a f,ptrOf C (es j) o.op = .ptr l a f then (hs j).blk l else none,(hs j).next,if isS o.op = true then (hs j).floor else (hs j).next⟩
    have hjb:∀ l,Hj.blk l = if (isL o.op = true ∨ isS o.op = true) ∧ ∃ a f,ptrOf C (es j) o.op = .ptr l a f then (hs j).blk l else none:=fun _ => rfl
    have inv : Inv σ ⟨I, ρ, (hs j).next, dset K0 ops.size hs fun i => bef ops j i = true⟩ Hj w := inv_view ba fa st hjm hb rfl (by show (if isS o.op = true then _ else _) ≤ _; split <;> first | exact hfloor | exact Nat.le_refl _) fun l B h => by
      rw [hjb] at h
      split at h
      · rename_i hc
        obtain ⟨hls,a',f,hp⟩:=hc
        exact ⟨h,ptrD l a' f hp,seen l a' f hls hp⟩
      · cases h
    obtain ⟨H2',hg,lo⟩:=local_guarded (H2:=Hj) hq (ba.od.ok j o ho) hm hst rfl (fun h => by show (if isS o.op = true then _ else _) = _; rw [if_pos h]) (fun l a' f hls hp => by rw [hjb,if_pos ⟨hls,a',f,hp⟩]) (fa.bnd j hjm)
    rw [guarded_mask] at hg
    refine ok_guarded good SF inv gl T ho hg fun y w' ld => k _ _ ?_
    refine advance ba fa hSm st hjm hjn hj hb ho inv ld lo.next (fun l h => lo.new l h.1 h.2) (fun l h => .inr (lo.out l h)) (fun l h => ?_) (fun l B h hl => ?_) (fun l h => ?_)
    · obtain ⟨h1,a',f,h2⟩:=oneS l h
      exact ⟨lo.at_ l a' f h1 h2,ptrD l a' f h2⟩
    · rw [hjb] at h
      split at h
      · rename_i hc
        obtain ⟨hls,a',f,hp⟩:=hc
        by_cases hs':isS o.op = true
        · refine ⟨.inl ⟨o,ho,hs',a',f,hp⟩,?_,B,h⟩
          have hl':(if isS o.op = true then (hs j).floor else (hs j).next) ≤ l:=hl
          rw [if_pos hs',ba.floor fa j hjm (Nat.le_of_lt hjn)] at hl'
          exact hl'
        · have hl':(if isS o.op = true then (hs j).floor else (hs j).next) ≤ l:=hl
          rw [if_neg hs'] at hl'
          have:=dlow l (ptrD l a' f hp)
          omega
      · cases h
    · obtain ⟨h1,a',f,h2⟩:=oneS l h
      exact seen l a' f (.inr h1) h2
theorem wpOp_ex {P : Program} {i : Nat} {next : Act → World → Prop} {a : Act} {w : World} (h : wpOp P ops (fun _ _ _ => False) i next a w) : ∃ a' w', next a' w' := by
  unfold wpOp at h
  split at h
  · exact ⟨_,_,h⟩
  · rename_i o _
    split at h
    · rcases h with h | ⟨_, h⟩
      · unfold Oper.wp at h
        cases hr:(execOp a.eval o).run P w with
        | ok nx w' =>
          rw [hr] at h
          cases nx <;> simp only [Oper.upon] at h <;> first
            | exact h.elim
            | exact ⟨_,_,h⟩
            | (obtain ⟨e, w'', fr, hR, _⟩ := h []
               cases e with
               | returned v => exact ⟨_,_,hR⟩
               | panicked c => exact hR.elim
               | outgrown => obtain ⟨_,_,hR⟩:=hR; exact hR.elim)
            | (obtain ⟨v, w'', hR, _⟩ := h default []
               exact ⟨_,_,hR⟩)
        | halt x w' =>
          rw [hr] at h
          cases x <;> exact h.elim
      · obtain ⟨_,_,h⟩:=h; exact h.elim
    · exact ⟨_,_,h⟩
theorem st_zero {I:Nat → Prop} (ba:Base C σ call ops hs es vs bs N K0 w0) {a:Act} (gl:GlobOk C σ K0 w0) (er:EnvRel σ K0 w0 N (es 0) a):St C σ ops hs es N K0 w0 (fun _ => False) K0.I K0.ρ a w0 where
 clo:=fun j h => h.elim
 slot:=fun t k hL => by
  rcases hL.1 with rfl | ⟨h,_⟩
  ·exact (er.tmp t).mono ⟨fun _ h => h,fun _ _ => rfl,fun l h => .inl h,fun _ _ => rfl,fun b cs e f h => ⟨cs,f,h,rfl⟩⟩
  ·exact h.elim
 blk:=fun l k B hL hd hB => by
  rcases hL.1 with rfl | ⟨h,_⟩
  ·have hbl:=ba.inv0.blk l B hB
   exact hbl.move ⟨fun _ h => h,fun _ _ => rfl,fun l h => .inl h,fun _ _ => rfl,fun b cs e f h => ⟨cs,f,h,rfl⟩⟩ rfl hbl.own
  ·exact h.elim
 inj:=fun l l' k k' B B' hL hL' hd hd' hB hB' he => by
  rcases hL.1 with rfl | ⟨h,_⟩
  ·rcases hL'.1 with rfl | ⟨h,_⟩
   ·exact ba.inv0.inj l l' B B' hB hB' he
   ·exact h.elim
  ·exact h.elim
 imm:=ba.inv0.imm
 I0:=fun _ h => h
 newI:=fun _ h _ => h
 ρ0:=fun _ _ => rfl
 fresh:=fun l k B hn _ hd _ => by
  rcases hd with hd | ⟨_,_,h,_⟩
  ·exact absurd hd hn
  ·exact h.elim
 gl:=gl.sub fun _ h => h
 tgt:=fun _ _ h => h.elim
 frame:=fun _ _ _ => rfl
 shape:=fun b cs e f h => ⟨cs,f,h,rfl⟩
 size:=Nat.le_refl _
 os:=rfl
 tape:=rfl
 output:=rfl
 tsz:=er.size
 dfr:=er.defers
theorem fa_all (good : Good C σ) (SF : ∀ f, SoundF C σ f (call f)) (ba : Base C σ call ops hs es vs bs N K0 w0) {a : Act} (gl : GlobOk C σ K0 w0) (er : EnvRel σ K0 w0 N (es 0) a) :
    ∀ m,m ≤ ops.size → Fa hs m ∧ ∃ I ρ a' w',St C σ ops hs es N K0 w0 (fun i => i < m) I ρ a' w'
  | 0, _ => by
    refine ⟨⟨fun j h => by omega,fun j h l B hB => ?_⟩,K0.I,K0.ρ,a,w0,?_⟩
    · have:j = 0:=by omega
      subst this
      exact ba.D0 l (ba.inv0.blk l B hB).lt
    · have:=st_zero (I:=K0.I) ba gl er
      have e:(fun i:Nat => i < 0) = fun _ => False:=by funext i; simp
      rw [e]; exact this
  | m + 1, hm => by
    obtain ⟨fa,I,ρ,a',w',st⟩:=fa_all good SF ba gl er m (by omega)
    obtain ⟨a2,w2,⟨q1,q2⟩,I',ρ',q3⟩:=wpOp_ex (stepAt good SF ba fa (S:=fun i => i < m) (fun _ h => h) (by omega) st (j:=m) (Nat.le_refl _) hm (Nat.lt_irrefl _) (fun i hi => bef_lt ba.od _ _ hi) (fun _ _ h => h))
    refine ⟨⟨fun j hj => ?_,fun j hj l B hB => ?_⟩,I',ρ',a2,w2,?_⟩
    · rcases Nat.lt_or_ge j m with g | g
      · exact fa.nxt j g
      · have:j = m:=by omega
        subst this; exact q1
    · rcases Nat.lt_or_ge j (m + 1) with g | g
      · exact fa.bnd j (by omega) l B hB
      · have:j = m + 1:=by omega
        subst this; exact q2 l B hB
    · have e:(fun i:Nat => i < m + 1) = fun i => i < m ∨ i = m:=by funext i; apply propext; omega
      rw [e]; exact q3
end
end Go.Fv
namespace Go.Fv
open Go
section
variable {C:Cfg} {σ:Nat → Addr} {call:FuncId → List V → M V} {ops:Array Oper} {hs:Nat → Heap} {es:Nat → Env} {vs:Nat → V} {bs:Nat → List (Nat × Nat × Nat × V)} {N:Nat} {K0:Ctx} {w0:World}
theorem ready_mem {listed : Array Bool} {j : Nat} : j ∈ Region.ready .any ops listed ↔ j < ops.size ∧ listed.getD j true = false ∧ ∃ o, ops[j]? = some o ∧ ∀ e ∈ o.after.toList, Region.binds .any e = true → listed.getD e.on false = true := by
  unfold Region.ready
  rw [List.mem_filter,List.mem_range]
  constructor
  · rintro ⟨h1, h2⟩
    rw [Bool.and_eq_true] at h2
    refine ⟨h1,by simpa using h2.1,?_⟩
    cases ho:ops[j]? with
    | none => rw [ho] at h2; simp at h2
    | some o =>
      rw [ho] at h2
      refine ⟨o,rfl,fun e he hb => ?_⟩
      have h3:=h2.2
      simp only [Option.map_some,Option.getD_some] at h3
      rw [Array.all_eq_true'] at h3
      have:=h3 e (Array.mem_toList_iff.1 he)
      rw [hb] at this
      simpa using this
  · rintro ⟨h1,h2,o,ho,h3⟩
    refine ⟨h1,?_⟩
    rw [Bool.and_eq_true]
    refine ⟨by simp [h2],?_⟩
    rw [ho]
    simp only [Option.map_some,Option.getD_some]
    rw [Array.all_eq_true']
    intro e he
    cases hb:Region.binds .any e with
    | false => rfl
    | true => simpa using h3 e (Array.mem_toList_iff.2 he) hb
theorem st_end (ba : Base C σ call ops hs es vs bs N K0 w0) (fa : Fa hs ops.size) {S : Nat → Prop} (hS : ∀ i, i < ops.size → S i) {I : Nat → Prop} {ρ : Nat → Nat × Nat × Nat} {a : Act} {w : World} (st : St C σ ops hs es N K0 w0 S I ρ a w) :
    ∃ K',Inv σ K' (hs ops.size) w ∧ GlobOk C σ K' w ∧ EnvRel σ K' w N (es ops.size) a ∧ Evo K0 (hs 0) w0 K' (hs ops.size) w:=by
  have lst : ∀ p : Nat → Prop, (∀ i, p i → i < ops.size) → ∃ k, k ≤ ops.size ∧ Last S p k ∧ ∀ i, p i → i < k := fun p hp => by
    obtain ⟨k,h1,h2,h3⟩:=lastBelow p ops.size
    exact ⟨k,h1,⟨h2.imp id fun h => ⟨hS _ (hp _ h),h⟩,fun i _ hi => h3 i hi (hp i hi)⟩,fun i hi => h3 i hi (hp i hi)⟩
  have hitlt:∀ l i,hit C ops hs es l i → i < ops.size:=fun l i h => h.1
  have blkAt : ∀ l, ∃ k, Last S (hit C ops hs es l) k ∧ (hs ops.size).blk l = (hs k).blk l := fun l => by
    obtain ⟨k,k1,k2,k3⟩:=lst (hit C ops hs es l) (hitlt l)
    exact ⟨k,k2,ba.unch fa ops.size k1 (Nat.le_refl _) (Nat.le_refl _) fun i hi _ hh => by have:=k3 i hh; omega⟩
  have dsAll : ∀ l B, (hs ops.size).blk l = some B → dset K0 ops.size hs S l := fun l B hB => by
    have hlt:=fa.bnd ops.size (Nat.le_refl _) l B hB
    have : ∀ m, m ≤ ops.size → l < (hs m).next → l < (hs 0).next ∨ ∃ i, i < ops.size ∧ born hs l i := by
      intro m
      induction m with
      | zero => exact fun _ h => .inl h
      | succ m ih =>
        intro hm hl
        rcases Nat.lt_or_ge l (hs m).next with g | g
        · exact ih (by omega) g
        · exact .inr ⟨m,by omega,g,hl⟩
    rcases this ops.size (Nat.le_refl _) hlt with h | ⟨i,h1,h2⟩
    · obtain ⟨B0,hB0⟩:=ba.back fa h ops.size (Nat.le_refl _) (Nat.le_refl _) ⟨B,hB⟩
      exact .inl (ba.inv0.blk l B0 hB0).lt
    · exact .inr ⟨i,h1,hS i h1,h2⟩
  have dlt:∀ l,dset K0 ops.size hs S l → l < (hs ops.size).next:=fun l h => dset_lt fa (Nat.le_refl _) ba.D0 (fun i hi => (st.clo i hi).1) h
  have up : ∀ (A : Nat → Prop), (∀ i, A i → S i) → Moves ⟨I, ρ, 0, dset K0 ops.size hs A⟩ ⟨I, ρ, (hs ops.size).next, dset K0 ops.size hs S⟩ w w := fun A hA =>
    ⟨fun _ h => h,fun _ _ => rfl,fun l h => dset_mono hA h,fun _ _ => rfl,fun b cs e f h => ⟨cs,f,h,rfl⟩⟩
  have uptoS : ∀ j i, S j → upto ops j i → S i := fun j i hj h => by
    rcases h with rfl | h
    · exact hj
    · exact (st.clo j hj).2 i h
  refine ⟨⟨I,ρ,(hs ops.size).next,dset K0 ops.size hs S⟩,⟨rfl,dlt,?_,fun l B hB => ?_,fun l l' B B' hB hB' he => ?_,st.imm⟩,st.gl.sub fun _ h => h,⟨st.tsz,st.dfr,fun t => ?_⟩,?_⟩
  · rw [ba.floor fa ops.size (Nat.le_refl _) (Nat.le_refl _)]
    exact Nat.le_trans ba.inv0.flo (fa.mono (Nat.zero_le _) (Nat.le_refl _))
  · obtain ⟨k,k1,k2⟩:=blkAt l
    have hbl:=st.blk l k B k1 (dsAll l B hB) (by rw [← k2]; exact hB)
    exact hbl.move (up _ fun i ⟨j,h1,_,h3⟩ => uptoS j i h1 h3) rfl hbl.own
  · obtain ⟨k,k1,k2⟩:=blkAt l
    obtain ⟨k',k1',k2'⟩:=blkAt l'
    exact st.inj l l' k k' B B' k1 k1' (dsAll l B hB) (dsAll l' B' hB') (by rw [← k2]; exact hB) (by rw [← k2']; exact hB') he
  · obtain ⟨k,k1,k2,k3⟩:=lst (wr ops t) (fun i ⟨o,ho,_⟩ => (Array.getElem?_eq_some_iff.1 ho).1)
    rw [ba.esame ops.size k1 (Nat.le_refl _) fun i hi _ hw => by have:=k3 i hw; omega]
    refine (st.slot t k k2).mono (up _ fun i ⟨h1,h2⟩ => ?_)
    rcases k2.1 with h0 | ⟨h3,_⟩
    · exact absurd h0 h1
    · exact uptoS _ i h3 h2
  · exact {
      I:=st.I0
      ρ:=st.ρ0
      D:=fun l h => .inl h
      nx:=by rw [ba.inv0.nx]; exact fa.mono (Nat.zero_le _) (Nat.le_refl _)
      floor:=ba.floor fa ops.size (Nat.le_refl _) (Nat.le_refl _)
      low := fun l h1 h2 => by
        have : ∀ j, j ≤ ops.size → (hs j).blk l = (hs 0).blk l := by
          intro j
          induction j with
          | zero => exact fun _ => rfl
          | succ j ih =>
            intro hj
            rw [← ih (by omega)]
            have hv:=ba.vsAt fa (i:=j) (by omega) (by omega)
            refine Classical.byContradiction fun hc => ?_
            have h3:=hv.lo l (Nat.lt_of_lt_of_le h2 (fa.mono (Nat.zero_le j) (by omega))) hc
            rw [ba.floor fa j (by omega) (by omega)] at h3
            omega
        exact this ops.size (Nat.le_refl _)
      frame:=st.frame
      shape:=st.shape
      size:=st.size
      os:=st.os
      tape:=st.tape
      output:=st.output
      range := fun l B hB hlt => by
        obtain ⟨k,k1,k2⟩:=blkAt l
        have hd:=dsAll l B hB
        by_cases h0:K0.D l
        · obtain ⟨B0,hB0⟩:=ba.back fa (ba.D0 l h0) ops.size (Nat.le_refl _) (Nat.le_refl _) ⟨B,hB⟩
          exact ⟨l,B0,hB0,by show (K0.ρ l).1 = (ρ l).1; rw [st.ρ0 l h0],.inl rfl⟩
        · have hlt':(ρ l).1 < w0.heap.size:=hlt
          rcases st.fresh l k B h0 k1 hd (by rw [← k2]; exact hB) with q | ⟨l0,B0,q1,q2,q3⟩
          · omega
          · exact ⟨l0,B0,q1,q3,.inr q2⟩
      newI:=st.newI
      newD := fun l h hlt => by
        rw [ba.inv0.nx] at hlt
        rcases h with h | ⟨i,h1,_,h3⟩
        · exact h
        · have:=fa.mono (Nat.zero_le i) (Nat.le_of_lt h1)
          have:=h3.1
          omega }
theorem all_of (good : Good C σ) (SF : ∀ f, SoundF C σ f (call f)) (ba : Base C σ call ops hs es vs bs N K0 w0) (fa : Fa hs ops.size) {Q : Exit → Act → World → Prop}
    (fin:∀ S I ρ a w,(∀ i,i < ops.size → S i) → St C σ ops hs es N K0 w0 S I ρ a w → Q .normal a w) :
    ∀ (fuel : Nat) (listed : Array Bool) (a : Act) (w : World) (I : Nat → Prop) (ρ : Nat → Nat × Nat × Nat), listed.size = ops.size → listed.toList.countP (!·) ≤ fuel → St C σ ops hs es N K0 w0 (fun i => listed.getD i false = true) I ρ a w →
      wpAny C.P .any ops Q fuel listed a w:=by
  have done : ∀ (listed : Array Bool), listed.size = ops.size → Region.ready .any ops listed = [] → ∀ i, i < ops.size → listed.getD i false = true := by
    intro listed hsz hr i
    induction i using Nat.strongRecOn with
    | _ i ih =>
      intro hi
      cases hl:listed.getD i false with
      | true => rfl
      | false =>
        have : i ∈ Region.ready .any ops listed := by
          refine ready_mem.2 ⟨hi,?_,ops[i],Array.getElem?_eq_getElem hi,fun e he hb => ?_⟩
          · rw [Array.getD_eq_getD_getElem?] at hl ⊢
            rw [Array.getElem?_eq_getElem (by omega)] at hl ⊢
            exact hl
          · have:=ba.od.edge i _ (Array.getElem?_eq_getElem hi) e he hb
            exact ih e.on this (by omega)
        rw [hr] at this
        cases this
  intro fuel
  induction fuel with
  | zero =>
    intro listed a w I ρ hsz hc st
    have hall : ∀ i, i < ops.size → listed.getD i false = true := fun i hi => by
      have h0:listed.toList.countP (!·) = 0:=by omega
      rw [List.countP_eq_zero] at h0
      have hi':i < listed.size:=by omega
      have:=h0 listed[i] (by simp)
      rw [Array.getD_eq_getD_getElem?,Array.getElem?_eq_getElem hi']
      simpa using this
    refine ⟨?_,fin _ I ρ a w hall st⟩
    cases hr:Region.ready .any ops listed with
    | nil => rfl
    | cons x xs =>
      have hx:x ∈ Region.ready .any ops listed:=by rw [hr]; exact List.mem_cons_self ..
      obtain ⟨h1,h2,_⟩:=ready_mem.1 hx
      have:=hall x h1
      rw [Array.getD_eq_getD_getElem?] at this h2
      rw [Array.getElem?_eq_getElem (by omega)] at this h2
      simp at this h2
      rw [this] at h2; cases h2
  | succ fuel ih =>
    intro listed a w I ρ hsz hc st
    refine ⟨fun hr => fin _ I ρ a w (done listed hsz hr) st,fun j hjr => ?_⟩
    obtain ⟨hjn,hjl,o,ho,hed⟩:=ready_mem.1 hjr
    have hjl' : listed[j]? = some false := by
      rw [Array.getD_eq_getD_getElem?,Array.getElem?_eq_getElem (by omega)] at hjl
      rw [Array.getElem?_eq_getElem (by omega)]
      simpa using hjl
    refine stepAt good SF ba fa (S:=fun i => listed.getD i false = true) (fun i hi => (st.clo i hi).1) (Nat.le_refl _) st (Nat.le_of_lt hjn) hjn (by rw [Array.getD_eq_getD_getElem?,hjl']; simp) (fun i hi => ?_) fun a' w' h => ?_
    · obtain ⟨e,h1,h2,h3⟩:=(bef_iff ba.od ho i).1 hi
      have:=hed e h1 h2
      rcases h3 with rfl | h3
      · exact this
      · exact (st.clo _ this).2 i h3
    · obtain ⟨_, I', ρ', st'⟩ := h
      refine ih (listed.setIfInBounds j true) a' w' I' ρ' (by simpa using hsz) ?_ ?_
      · have hjlt : j < listed.toList.length := by rw [Array.length_toList, hsz]; exact hjn
        have hcnt : (listed.setIfInBounds j true).toList.countP (!·) + 1 = listed.toList.countP (!·) := by
          rw [Array.toList_setIfInBounds,List.countP_set hjlt]
          have : listed.toList[j] = false := by
            have:=(Array.getElem?_eq_some_iff.1 hjl').2
            simpa using this
          have hpos:0 < listed.toList.countP (!·):=List.countP_pos_iff.2 ⟨false,by rw [← this]; exact List.getElem_mem _,rfl⟩
          rw [this]
          simp only [Bool.not_false,Bool.not_true,if_true,Bool.false_eq_true,if_false,Nat.add_zero]
          have:=hpos
          omega
        omega
      · have e : (fun i => (listed.setIfInBounds j true).getD i false = true) = fun i => listed.getD i false = true ∨ i = j := by
          funext i
          apply propext
          simp only [Array.getD_eq_getD_getElem?]
          by_cases e:i = j
          · subst e
            simp; omega
          · rw [Array.getElem?_setIfInBounds_ne (Ne.symm e)]
            simp [e]
        rw [e]; exact st'
theorem drawn_ok (good:Good C σ) (SF:∀ f,SoundF C σ f (call f)):DrawnOk C σ call:=by
 intro ops N Kc r K H w env a id inv gl er hN hok hrun
 obtain ⟨hs,es,vs,bs,q1,q2,q3,q4,q5⟩:=trace_of (n0:=H.next) ops.toList 0 [] env H (by simp) hrun
 simp only [Nat.zero_add,Array.length_toList] at q4 q5
 obtain ⟨inv',evo'⟩:=inv.drew
 have mv:=inv.moves evo'
 subst q1; subst q2
 have ba:Base C σ call ops hs es vs bs N K w.drew:=⟨ord_of hok,q4,q3,inv',hN⟩
 have gl':=gl.mono mv
 have er':=er.mono mv
 have fa:=(fa_all good SF ba gl' er' ops.size (Nat.le_refl _)).1
 refine wp_region_any good.mixed ?_
 refine all_of good SF ba fa (fun S I ρ a' w' hS st => ?_) ops.size (Array.replicate ops.size false) a w.drew K.I K.ρ (by simp) ?_ ?_
 ·obtain ⟨K',i1,i2,i3,i4⟩:=st_end ba fa hS st
  refine ⟨.normal,es ops.size,K',hs ops.size,rfl,i1,i2,i3,Evo.trans inv inv' evo' i4,fun t ht => ?_,q5⟩
  exact ba.esame ops.size (Nat.zero_le _) (Nat.le_refl _) fun i _ _ ⟨o,ho,hd⟩ => ht (mem_dsts (Array.mem_toList_iff.2 (Array.mem_of_getElem? ho)) hd)
 ·exact Nat.le_trans List.countP_le_length (by simp)
 ·have:=st_zero (I:=K.I) ba gl' er'
  have e:(fun i => (Array.replicate ops.size false).getD i false = true) = fun _ => False:=by
   funext i
   apply propext
   simp only [Array.getD_eq_getD_getElem?,iff_false]
   cases h:(Array.replicate ops.size false)[i]? with
   | none => simp
   | some b => rw [Array.getElem?_replicate] at h; split at h <;> simp at h; subst h; simp
  rw [e]; exact this
theorem sound (good:Good C σ) (n:Nat) (f:FuncId):SoundF C σ f (sem C n f):=ok_sem good (fun _ SF => drawn_ok good SF) n f
end
end Go.Fv
