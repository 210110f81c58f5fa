/-
  A region whose order is open: one operation, wherever it stands in the order. By an AI agent; no person has read it.
-/
import Derived.Test.YtekncgjkocgioaaGreatDoorFvP17
set_option linter.unusedVariables false
set_option linter.unusedSimpArgs false
set_option linter.unusedSectionVars false
/-! A region whose order is open: one operation, wherever it stands in the order. -/
namespace Go.Fv
open Go
theorem BlkAt.move {σ:Nat → Addr} {K K':Ctx} {w w':World} {l:Nat} {B:Blk} (h:BlkAt σ K w l B) (mv:Moves K K' w w') (hh:w'.heap[(K.ρ l).1]? = w.heap[(K.ρ l).1]?) (hI:¬ K'.I (K.ρ l).1):BlkAt σ K' w' l B:=by
 exact h.keep mv (mv.D l h.lt) (mv.ρ l h.lt) hh hI
section
variable {C:Cfg} {σ:Nat → Addr} {call:FuncId → List V → M V} {ops:Array Oper} {hs:Nat → Heap} {es:Nat → Env} {vs:Nat → V} {bs:Nat → List (Nat × Nat × Nat × V)} {N:Nat} {K0:Ctx} {w0:World}
structure St (C:Cfg) (σ:Nat → Addr) (ops:Array Oper) (hs:Nat → Heap) (es:Nat → Env) (N:Nat) (K0:Ctx) (w0:World) (S:Nat → Prop) (I:Nat → Prop) (ρ:Nat → Nat × Nat × Nat) (a:Act) (w:World):Prop where
 clo:∀ j,S j → j < ops.size ∧ ∀ i,bef ops j i = true → S i
 slot:∀ t k,Last S (wr ops t) k → Rel σ ⟨I,ρ,0,dset K0 ops.size hs (Aof ops k)⟩ w (es k t) (a.tmps.getD t Go.undef)
 blk:∀ l k B,Last S (hit C ops hs es l) k → dset K0 ops.size hs S l → (hs k).blk l = some B → BlkAt σ ⟨I,ρ,0,dset K0 ops.size hs fun i => ∃ j,S j ∧ hit C ops hs es l j ∧ upto ops j i⟩ w l B
 inj:∀ l l' k k' B B',Last S (hit C ops hs es l) k → Last S (hit C ops hs es l') k' → dset K0 ops.size hs S l → dset K0 ops.size hs S l' → (hs k).blk l = some B → (hs k').blk l' = some B' → (ρ l).1 = (ρ l').1 → l = l'
 imm:∀ b,I b → b < w.heap.size
 I0:∀ b,K0.I b → I b
 newI:∀ b,I b → b < w0.heap.size → K0.I b
 ρ0:∀ l,K0.D l → ρ l = K0.ρ l
 fresh:∀ l k B,¬ K0.D l → Last S (hit C ops hs es l) k → dset K0 ops.size hs S l → (hs k).blk l = some B → w0.heap.size ≤ (ρ l).1 ∨ ∃ l0 B0,(hs 0).blk l0 = some B0 ∧ (hs 0).floor ≤ l0 ∧ (K0.ρ l0).1 = (ρ l).1
 gl:GlobOk C σ ⟨I,ρ,0,fun _ => False⟩ w
 tgt:∀ i l,S i → hitS C ops hs es l i → dset K0 ops.size hs (fun k => bef ops i k = true) l
 frame:∀ (b:Nat),b < w0.heap.size → (∀ l B,(hs 0).blk l = some B → (hs 0).floor ≤ l → (K0.ρ l).1 ≠ b) → w.heap[b]? = w0.heap[b]?
 shape:∀ (b:Nat) (cs:Array Value) (e:TypeId) (f:Nat × Nat),w0.heap[b]? = some (Obj.cells cs e f) → ∃ cs' f',w.heap[b]? = some (Obj.cells cs' e f') ∧ cs'.size = cs.size
 size:w0.heap.size ≤ w.heap.size
 os:w.os = w0.os
 tape:w.tape = w0.tape
 output:w.output = w0.output
 tsz:N ≤ a.tmps.size
 dfr:a.defers = []
structure Base (C:Cfg) (σ:Nat → Addr) (call:CV) (ops:Array Oper) (hs:Nat → Heap) (es:Nat → Env) (vs:Nat → V) (bs:Nat → List (Nat × Nat × Nat × V)) (N:Nat) (K0:Ctx) (w0:World):Prop where
 od:Ord ops
 tr:Tr C call ops (hs 0).next hs es vs bs 0 ops.size
 b0:bs 0 = []
 inv0:Inv σ K0 (hs 0) w0
 hN:∀ d ∈ dsts ops,d < N
theorem Base.floor (ba:Base C σ call ops hs es vs bs N K0 w0) {m:Nat} (fa:Fa hs m):∀ j,j ≤ m → j ≤ ops.size → (hs j).floor = (hs 0).floor
 | 0,_,_ => rfl
 | j + 1,h1,h2 => (vs_of ba.od ba.tr ba.b0 (i:=j) (by omega) (ba.floor fa j (by omega) (by omega)) (fa.bnd j (by omega))).floor.trans (ba.floor fa j (by omega) (by omega))
theorem Base.vsAt (ba:Base C σ call ops hs es vs bs N K0 w0) {m i:Nat} (fa:Fa hs m) (hi:i < ops.size) (him:i ≤ m):VS C ops hs es i:=vs_of ba.od ba.tr ba.b0 hi (ba.floor fa i him (by omega)) (fa.bnd i him)
theorem Base.back (ba:Base C σ call ops hs es vs bs N K0 w0) {m:Nat} (fa:Fa hs m) {l:Nat} (hl:l < (hs 0).next):∀ j,j ≤ m → j ≤ ops.size → (∃ B,(hs j).blk l = some B) → ∃ B,(hs 0).blk l = some B
 | 0,_,_,h => h
 | j + 1,h1,h2,h => ba.back fa hl j (by omega) (by omega) ((ba.vsAt fa (i:=j) (by omega) (by omega)).keep l (Nat.lt_of_lt_of_le hl (fa.mono (Nat.zero_le j) (by omega))) h)
theorem Base.unch (ba : Base C σ call ops hs es vs bs N K0 w0) {m : Nat} (fa : Fa hs m) {l k : Nat} : ∀ j, k ≤ j → j ≤ m → j ≤ ops.size → (∀ i, k ≤ i → i < j → ¬ hit C ops hs es l i) → (hs j).blk l = (hs k).blk l
  | 0, h, _, _, _ => by have : k = 0 := by omega
                        subst this; rfl
  | j + 1, h, h1, h2, hn => by
    rcases Nat.lt_or_ge j k with g | g
    · have:k = j + 1:=by omega
      subst this; rfl
    · rw [← ba.unch fa j g (by omega) (by omega) fun i hi hj => hn i hi (by omega)]
      have nh:=hn j g (Nat.lt_succ_self j)
      have hv:=ba.vsAt fa (i:=j) (by omega) (by omega)
      rcases Nat.lt_or_ge l (hs j).next with q | q
      · exact Classical.byContradiction fun hc => nh ⟨by omega,.inr (hv.chg l q hc)⟩
      · have e1 : (hs j).blk l = none := by
          cases hb:(hs j).blk l with
          | none => rfl
          | some B => have:=fa.bnd j (by omega) l B hb; omega
        rw [e1]
        cases hb:(hs (j + 1)).blk l with
        | none => rfl
        | some B => exact absurd ⟨by omega,.inl ⟨q,fa.bnd (j + 1) (by omega) l B hb⟩⟩ nh
theorem Base.esame (ba : Base C σ call ops hs es vs bs N K0 w0) {t k : Nat} : ∀ j, k ≤ j → j ≤ ops.size → (∀ i, k ≤ i → i < j → ¬ wr ops t i) → es j t = es k t
  | 0, h, _, _ => by have : k = 0 := by omega
                     subst this; rfl
  | j + 1, h, h2, hn => by
    rcases Nat.lt_or_ge j k with g | g
    · have:k = j + 1:=by omega
      subst this; rfl
    · rw [← ba.esame j g (by omega) fun i hi hj => hn i hi (by omega)]
      obtain ⟨o,ho,_,_,he,_⟩:=ba.tr j (Nat.zero_le _) (by omega)
      rw [he]
      have nw:=hn j g (Nat.lt_succ_self j)
      cases hd:o.dst with
      | none => rfl
      | some d =>
        show (if t = d then vs j else es j t) = _
        rw [if_neg fun (e:t = d) => nw ⟨o,ho,by rw [hd,e]⟩]
theorem dset_lt {K0:Ctx} {n m j:Nat} {A:Nat → Prop} (fa:Fa hs m) (hj:j ≤ m) (h0:∀ l,K0.D l → l < (hs 0).next) (hA:∀ i,A i → i < j) {l:Nat} (h:dset K0 n hs A l):l < (hs j).next:=by
 rcases h with h | ⟨i,_,h1,h2⟩
 ·exact Nat.lt_of_lt_of_le (h0 l h) (fa.mono (Nat.zero_le j) hj)
 ·exact Nat.lt_of_lt_of_le h2.2 (fa.mono (hA i h1) hj)
theorem Base.D0 (ba:Base C σ call ops hs es vs bs N K0 w0) (l:Nat) (h:K0.D l):l < (hs 0).next:=by
 have:=ba.inv0.dom l h
 rwa [ba.inv0.nx] at this
theorem advance (ba : Base C σ call ops hs es vs bs N K0 w0) {m : Nat} (fa : Fa hs m) {S : Nat → Prop} (hSm : ∀ i, S i → i < m) {I : Nat → Prop} {ρ : Nat → Nat × Nat × Nat} {a : Act} {w : World} (st : St C σ ops hs es N K0 w0 S I ρ a w)
    {j:Nat} (hjm:j ≤ m) (hjn:j < ops.size) (hj:¬ S j) (hb:∀ i,bef ops j i = true → S i) {o:Oper} (ho:ops[j]? = some o)
    {Hj Hr:Heap} {x:Value} {w':World} (inv:Inv σ ⟨I,ρ,(hs j).next,dset K0 ops.size hs fun i => bef ops j i = true⟩ Hj w)
    (ld:Leads C σ ⟨I,ρ,(hs j).next,dset K0 ops.size hs fun i => bef ops j i = true⟩ Hj w (vs j) Hr x w')
    (hn:Hr.next = (hs (j + 1)).next) (hnew:∀ l,born hs l j → Hr.blk l = (hs (j + 1)).blk l)
    (hout:∀ l,(hs (j + 1)).next ≤ l → (hs (j + 1)).blk l = Hr.blk l ∨ (hs (j + 1)).blk l = (hs j).blk l)
    (htgt:∀ l,hitS C ops hs es l j → Hr.blk l = (hs (j + 1)).blk l ∧ dset K0 ops.size hs (fun k => bef ops j k = true) l)
    (hown:∀ l B,Hj.blk l = some B → Hj.floor ≤ l → hitS C ops hs es l j ∧ (hs 0).floor ≤ l ∧ ∃ B0,(hs j).blk l = some B0)
    (sy:∀ l,hitS C ops hs es l j → ∃ k,k ≤ j ∧ Last S (hit C ops hs es l) k ∧ (hs j).blk l = (hs k).blk l ∧ ∀ i,S i → hit C ops hs es l i → bef ops j i = true) :
    ((hs j).next ≤ (hs (j + 1)).next ∧ ∀ l B,(hs (j + 1)).blk l = some B → l < (hs (j + 1)).next) ∧ ∃ I' ρ',St C σ ops hs es N K0 w0 (fun i => S i ∨ i = j) I' ρ' (a.put o.dst x) w':=by
  obtain ⟨K',r1,r2,r3⟩:=ld
  have hv:=ba.vsAt fa hjn hjm
  have hle : (hs j).next ≤ (hs (j + 1)).next := by
    have h1:=r3.nx; have h2:=r2.nx
    rw [h2,hn] at h1; exact h1
  have hbnd : ∀ l B, (hs (j + 1)).blk l = some B → l < (hs (j + 1)).next := fun l B h => by
    rcases Nat.lt_or_ge l (hs (j + 1)).next with g | g
    · exact g
    · rcases hout l g with q | q
      · rw [q] at h
        have:=r2.dom l (r2.blk l B h).lt
        rw [r2.nx,hn] at this; exact this
      · rw [q] at h
        exact Nat.lt_of_lt_of_le (fa.bnd j hjm l B h) hle
  refine ⟨⟨hle,hbnd⟩,K'.I,fun l => if (hs j).next ≤ l ∧ l < (hs (j + 1)).next then K'.ρ l else ρ l,?_⟩
  have hjS:∀ i,S i → i ≠ j:=fun i hi e => hj (e ▸ hi)
  have ρold : ∀ l, dset K0 ops.size hs S l → (if (hs j).next ≤ l ∧ l < (hs (j + 1)).next then K'.ρ l else ρ l) = ρ l := fun l h => by
    rw [if_neg]
    rintro ⟨h1,h2⟩
    rcases h with h | ⟨i,_,hi,h3,h4⟩
    · have:=ba.D0 l h
      have:=fa.mono (Nat.zero_le j) hjm
      omega
    · rcases Nat.lt_trichotomy i j with g | g | g
      · have:=fa.mono (i:=i + 1) (k:=j) g hjm
        omega
      · exact hjS i hi g
      · have:=fa.mono (i:=j + 1) (k:=i) g (Nat.le_of_lt (hSm i hi))
        omega
  have dlow:∀ l,dset K0 ops.size hs (fun i => bef ops j i = true) l → l < (hs j).next:=fun l h => dset_lt fa hjm ba.D0 (fun i hi => bef_lt ba.od j i hi) h
  have dS:∀ l,dset K0 ops.size hs (fun i => bef ops j i = true) l → dset K0 ops.size hs S l:=fun l h => dset_mono (fun i hi => hb i hi) h
  have K'new : ∀ l, K'.D l → dset K0 ops.size hs (fun i => bef ops j i = true) l ∨ born hs l j := fun l h => by
    rcases Nat.lt_or_ge l (hs j).next with g | g
    · exact .inl (r3.newD l h g)
    · refine .inr ⟨g,?_⟩
      have:=r2.dom l h
      rw [r2.nx,hn] at this; exact this
  have ρnew : ∀ l, K'.D l → (if (hs j).next ≤ l ∧ l < (hs (j + 1)).next then K'.ρ l else ρ l) = K'.ρ l := fun l h => by
    rcases K'new l h with h1 | h1
    · rw [ρold l (dS l h1)]; exact (r3.ρ l h1).symm
    · rw [if_pos ⟨h1.1,h1.2⟩]
  have mvS : ∀ (A A' : Nat → Prop), (∀ i, A i → S i) → (∀ i, A i → A' i) → Moves ⟨I, ρ, 0, dset K0 ops.size hs A⟩ ⟨K'.I, fun l => if (hs j).next ≤ l ∧ l < (hs (j + 1)).next then K'.ρ l else ρ l, 0, dset K0 ops.size hs A'⟩ w w' := fun A A' hA hAA =>
    ⟨r3.I,fun l h => ρold l (dset_mono hA h),fun l h => dset_mono hAA h,(inv.moves r3).same,r3.shape⟩
  have mvJ : ∀ (A' : Nat → Prop), (∀ i, upto ops j i → A' i) → Moves K' ⟨K'.I, fun l => if (hs j).next ≤ l ∧ l < (hs (j + 1)).next then K'.ρ l else ρ l, 0, dset K0 ops.size hs A'⟩ w' w' := fun A' hA =>
    ⟨fun _ h => h,ρnew,fun l h => (K'new l h).elim (fun h => dset_mono (fun i hi => hA i (.inr hi)) h) (fun h => .inr ⟨j,hjn,hA j (.inl rfl),h⟩),fun _ _ => rfl,fun b cs e f h => ⟨cs,f,h,rfl⟩⟩
  have lastJ : ∀ l k, Last (fun i => S i ∨ i = j) (hit C ops hs es l) k → hit C ops hs es l j → k = j + 1 := fun l k hL hh => by
    have h1:=hL.2 j (.inr rfl) hh
    rcases hL.1 with h0 | ⟨h2,h3⟩
    · omega
    · rcases h2 with h2 | h2
      · exfalso
        have hne:=hjS _ h2
        have hgt:j < k - 1:=by omega
        have hlt:=hSm _ h2
        rcases hh.2 with hbo | hst
        · rcases h3.2 with h4 | h4
          · exact hne (fa.born_uniq hlt (by omega) h4 hbo)
          · rcases st.tgt _ l h2 h4 with h5 | ⟨i, _, h5, h6⟩
            · have:=ba.D0 l h5
              have:=fa.mono (Nat.zero_le j) hjm
              have:=hbo.1
              omega
            · have hi:i < k - 1:=bef_lt ba.od _ _ h5
              have:=fa.born_uniq (by omega) (by omega) h6 hbo
              subst this
              exact hj ((st.clo _ h2).2 _ h5)
        · obtain ⟨k1,_,hL1,_,hall⟩:=sy l hst
          have:=bef_lt ba.od _ _ (hall _ h2 h3)
          omega
      · omega
  have fresh' : ∀ l B, born hs l j → Hr.blk l = some B → w.heap.size ≤ (K'.ρ l).1 ∨ ∃ l0 B0, Hj.blk l0 = some B0 ∧ Hj.floor ≤ l0 ∧ (ρ l0).1 = (K'.ρ l).1 ∧ Hr.blk l0 = none := fun l B hbo hB => by
    rcases Nat.lt_or_ge (K'.ρ l).1 w.heap.size with g | g
    · obtain ⟨l0, B0, h0, h1, h2⟩ := r3.range l B hB g
      have hD0:=(inv.blk l0 B0 h0).lt
      have hl0:l0 < (hs j).next:=by have:=inv.dom l0 hD0; exact this
      have:=hbo.1
      rcases h2 with rfl | h2
      · omega
      · refine .inr ⟨l0, B0, h0, h2, h1, ?_⟩
        cases hr:Hr.blk l0 with
        | none => rfl
        | some B' =>
          have h4:(K'.ρ l0).1 = (K'.ρ l).1:=by rw [r3.ρ l0 hD0]; exact h1
          have:=r2.inj l0 l B' B hr hB h4
          omega
    · exact .inl g
  have taken : ∀ l l' B k1' k' B' B2, born hs l j → Hr.blk l = some B → Last (fun i => S i ∨ i = j) (hit C ops hs es l') k1' → (hs k1').blk l' = some B2 → Last S (hit C ops hs es l') k' → dset K0 ops.size hs S l' → (hs k').blk l' = some B' → (K'.ρ l).1 = (ρ l').1 → False := fun l l' B k1' k' B' B2 hbo hB hL1 hB2 hL' hd' hB' he => by
    rcases fresh' l B hbo hB with h | ⟨l0,B0,h1,h2,h3,h4⟩
    · have h2:(ρ l').1 < w.heap.size:=(st.blk l' k' B' hL' hd' hB').lt_size
      have e:(ρ l').1 = (K'.ρ l).1:=he.symm
      omega
    · obtain ⟨q1,_,B00,q2⟩:=hown l0 B0 h1 h2
      obtain ⟨k0,_,q3,q4,_⟩:=sy l0 q1
      have:=st.inj l0 l' k0 k' B00 B' q3 hL' (dS l0 (htgt l0 q1).2) hd' (by rw [← q4]; exact q2) hB' (h3.trans he)
      subst this
      have:=lastJ l0 k1' hL1 ⟨hjn,.inr q1⟩
      subst this
      rw [← (htgt l0 q1).1,h4] at hB2
      cases hB2
  have lastO : ∀ l k, Last (fun i => S i ∨ i = j) (hit C ops hs es l) k → ¬ hit C ops hs es l j → Last S (hit C ops hs es l) k := fun l k hL hh => by
    refine ⟨hL.1.imp id fun ⟨h1,h2⟩ => ⟨h1.resolve_right fun e => hh (e ▸ h2),h2⟩,fun i hi => hL.2 i (.inl hi)⟩
  have dsO : ∀ l, dset K0 ops.size hs (fun i => S i ∨ i = j) l → ¬ hit C ops hs es l j → dset K0 ops.size hs S l := fun l h hh => by
    rcases h with h | ⟨i,h0,h1,h2⟩
    · exact .inl h
    · refine .inr ⟨i,h0,h1.resolve_right fun e => hh ?_,h2⟩
      subst e; exact ⟨h0,.inl h2⟩
  have oldS : ∀ l B, hitS C ops hs es l j → (hs (j + 1)).blk l = some B → ∃ k B0, Last S (hit C ops hs es l) k ∧ (hs k).blk l = some B0 := fun l B hh hB => by
    obtain ⟨h1,h2⟩:=htgt l hh
    obtain ⟨B0,h3⟩:=hv.keep l (dlow l h2) ⟨B,hB⟩
    obtain ⟨k,_,h4,h5,_⟩:=sy l hh
    exact ⟨k,B0,h4,by rw [← h5]; exact h3⟩
  have hrOf : ∀ l k B, Last (fun i => S i ∨ i = j) (hit C ops hs es l) k → hit C ops hs es l j → (hs k).blk l = some B → Hr.blk l = some B ∧ (hs (j + 1)).blk l = some B := fun l k B hL hh hB => by
    have:=lastJ l k hL hh
    subst this
    refine ⟨?_,hB⟩
    rcases hh.2 with h | h
    · rw [hnew l h]; exact hB
    · rw [(htgt l h).1]; exact hB
  exact {
    clo := fun i hi => by
      rcases hi with hi | rfl
      · exact ⟨(st.clo i hi).1,fun k hk => .inl ((st.clo i hi).2 k hk)⟩
      · exact ⟨hjn,fun k hk => .inl (hb k hk)⟩
    slot := fun t k hL => by
      by_cases hw:wr ops t j
      · have hk : k = j + 1 := by
          have h1:=hL.2 j (.inr rfl) hw
          rcases hL.1 with h0 | ⟨h2,o',h3,h4⟩
          · omega
          · rcases h2 with h2 | h2
            · exfalso
              have hgt:j < k - 1:=by have:=hjS _ h2; omega
              refine hj ((st.clo _ h2).2 j (ba.od.clash j (k - 1) o o' hgt ho h3 ?_))
              obtain ⟨o2,h5,h6⟩:=hw
              rw [ho] at h5; injection h5 with h5; subst h5
              unfold clash
              rw [h4,h6]
              simp [touches,h4]
            · omega
        subst hk
        obtain ⟨o2,h5,h6⟩:=hw
        rw [ho] at h5; injection h5 with h5; subst h5
        obtain ⟨o3,h7,_,_,he,_⟩:=ba.tr j (Nat.zero_le _) hjn
        rw [ho] at h7; injection h7 with h7; subst h7
        have e1:es (j + 1) t = vs j:=by rw [he,h6]; show (if t = t then _ else _) = _; rw [if_pos rfl]
        have ht:t < a.tmps.size:=Nat.lt_of_lt_of_le (ba.hN t (mem_dsts (Array.mem_toList_iff.2 (Array.mem_of_getElem? ho)) h6)) st.tsz
        have e2:(a.put o.dst x).tmps.getD t Go.undef = x:=by rw [h6]; simp [Act.put,ht]
        rw [e1,e2]
        exact r1.mono (mvJ _ fun i hi => ⟨Nat.succ_ne_zero j,hi⟩)
      · have hL' : Last S (wr ops t) k := ⟨hL.1.imp id fun ⟨h1, h2⟩ => ⟨h1.resolve_right fun e => hw (e ▸ h2), h2⟩, fun i hi => hL.2 i (.inl hi)⟩
        have e2 : (a.put o.dst x).tmps.getD t Go.undef = a.tmps.getD t Go.undef := by
          cases hd:o.dst with
          | none => rfl
          | some d =>
            have hne:d ≠ t:=fun e => hw ⟨o,ho,by rw [hd,e]⟩
            simp only [Act.put,Array.getD_eq_getD_getElem?]
            rw [Array.getElem?_setIfInBounds_ne hne]
        rw [e2]
        refine (st.slot t k hL').mono (mvS _ _ (fun i hi => ?_) fun _ h => h)
        obtain ⟨h1,h2⟩:=hi
        rcases hL'.1 with h0 | ⟨h3,_⟩
        · exact absurd h0 h1
        · rcases h2 with rfl | h2
          · exact h3
          · exact (st.clo _ h3).2 _ h2
    blk := fun l k B hL hd hB => by
      by_cases hh:hit C ops hs es l j
      · obtain ⟨h1,_⟩:=hrOf l k B hL hh hB
        have hbl:=r2.blk l B h1
        exact hbl.move (mvJ _ fun i hi => ⟨j,.inr rfl,hh,hi⟩) rfl hbl.own
      · have hL' := lastO l k hL hh
        have hd':=dsO l hd hh
        have hbl:=st.blk l k B hL' hd' hB
        have hsame : w'.heap[(ρ l).1]? = w.heap[(ρ l).1]? := r3.frame _ hbl.lt_size fun l2 B2 h2 h3 he => by
          obtain ⟨q1,_,B0,q2⟩:=hown l2 B2 h2 h3
          obtain ⟨k2,_,q3,q4,_⟩:=sy l2 q1
          have:=st.inj l2 l k2 k B0 B q3 hL' (dS l2 (htgt l2 q1).2) hd' (by rw [← q4]; exact q2) hB he
          subst this
          exact hh ⟨hjn,.inr q1⟩
        refine hbl.move (mvS _ _ (fun i ⟨i',h1,_,h3⟩ => ?_) fun i ⟨i',h1,h2,h3⟩ => ⟨i',.inl h1,h2,h3⟩) hsame ?_
        · rcases h3 with rfl | h3
          · exact h1
          · exact (st.clo _ h1).2 _ h3
        · intro hI
          exact hbl.own (r3.newI _ hI hbl.lt_size)
    inj := fun l l' k k' B B' hL hL' hd hd' hB hB' he => by
      have one : ∀ l k B, Last (fun i => S i ∨ i = j) (hit C ops hs es l) k → dset K0 ops.size hs (fun i => S i ∨ i = j) l → (hs k).blk l = some B →
          (born hs l j ∧ Hr.blk l = some B) ∨ (∃ k0 B0,Last S (hit C ops hs es l) k0 ∧ dset K0 ops.size hs S l ∧ (hs k0).blk l = some B0):=fun l k B hL hd hB => by
        by_cases hh:hit C ops hs es l j
        · obtain ⟨h1, h2⟩ := hrOf l k B hL hh hB
          rcases hh.2 with h | h
          · exact .inl ⟨h,h1⟩
          · obtain ⟨k0,B0,h3,h4⟩:=oldS l B h h2
            exact .inr ⟨k0,B0,h3,dS l (htgt l h).2,h4⟩
        · exact .inr ⟨k,B,lastO l k hL hh,dsO l hd hh,hB⟩
      have low:∀ l k0 B0,Last S (hit C ops hs es l) k0 → dset K0 ops.size hs S l → (hs k0).blk l = some B0 → (ρ l).1 < w.heap.size:=fun l k0 B0 h1 h2 h3 => (st.blk l k0 B0 h1 h2 h3).lt_size
      have he':(if (hs j).next ≤ l ∧ l < (hs (j + 1)).next then K'.ρ l else ρ l).1 = (if (hs j).next ≤ l' ∧ l' < (hs (j + 1)).next then K'.ρ l' else ρ l').1:=he
      rcases one l k B hL hd hB with ⟨h1,h2⟩ | ⟨k1,B1,h1,h2,h3⟩ <;> rcases one l' k' B' hL' hd' hB' with ⟨g1,g2⟩ | ⟨k2,B2,g1,g2,g3⟩
      · rw [if_pos ⟨h1.1,h1.2⟩,if_pos ⟨g1.1,g1.2⟩] at he'
        exact r2.inj l l' B B' h2 g2 he'
      · rw [if_pos ⟨h1.1,h1.2⟩,ρold l' g2] at he'
        exact (taken l l' B k' k2 B2 B' h1 h2 hL' hB' g1 g2 g3 he').elim
      · rw [ρold l h2,if_pos ⟨g1.1,g1.2⟩] at he'
        exact (taken l' l B' k k1 B1 B g1 g2 hL hB h1 h2 h3 he'.symm).elim
      · rw [ρold l h2,ρold l' g2] at he'
        exact st.inj l l' k1 k2 B1 B2 h1 g1 h2 g2 h3 g3 he'
    imm:=r2.imm
    I0:=fun b h => r3.I b (st.I0 b h)
    newI:=fun b h hlt => st.newI b (r3.newI b h (Nat.lt_of_lt_of_le hlt st.size)) hlt
    ρ0:=fun l h => (ρold l (.inl h)).trans (st.ρ0 l h)
    fresh := fun l k B hn0 hL hd hB => by
      by_cases hh:hit C ops hs es l j
      · obtain ⟨h1, h2⟩ := hrOf l k B hL hh hB
        rcases hh.2 with h | h
        · show _ ≤ (if (hs j).next ≤ l ∧ l < (hs (j + 1)).next then K'.ρ l else ρ l).1 ∨ ∃ l0 B0, _ ∧ _ ∧ _ = (if (hs j).next ≤ l ∧ l < (hs (j + 1)).next then K'.ρ l else ρ l).1
          rw [if_pos ⟨h.1,h.2⟩]
          rcases fresh' l B h h1 with q | ⟨l0,B0,q1,q2,q3,_⟩
          · exact .inl (Nat.le_trans st.size q)
          · obtain ⟨p1, p2, B00, p3⟩ := hown l0 B0 q1 q2
            by_cases h0:K0.D l0
            · obtain ⟨B0',p4⟩:=ba.back fa (ba.D0 l0 h0) j hjm (Nat.le_of_lt hjn) ⟨B00,p3⟩
              exact .inr ⟨l0,B0',p4,p2,by rw [← st.ρ0 l0 h0]; exact q3⟩
            · obtain ⟨k2,_,p4,p5,_⟩:=sy l0 p1
              have:=st.fresh l0 k2 B00 h0 p4 (dS l0 (htgt l0 p1).2) (by rw [← p5]; exact p3)
              rw [q3] at this
              exact this
        · obtain ⟨k0,B0,h3,h4⟩:=oldS l B h h2
          show _ ≤ (if (hs j).next ≤ l ∧ l < (hs (j + 1)).next then K'.ρ l else ρ l).1 ∨ ∃ l0 B0,_ ∧ _ ∧ _ = (if (hs j).next ≤ l ∧ l < (hs (j + 1)).next then K'.ρ l else ρ l).1
          rw [ρold l (dS l (htgt l h).2)]
          exact st.fresh l k0 B0 hn0 h3 (dS l (htgt l h).2) h4
      · show _ ≤ (if (hs j).next ≤ l ∧ l < (hs (j + 1)).next then K'.ρ l else ρ l).1 ∨ ∃ l0 B0,_ ∧ _ ∧ _ = (if (hs j).next ≤ l ∧ l < (hs (j + 1)).next then K'.ρ l else ρ l).1
        rw [ρold l (dsO l hd hh)]
        exact st.fresh l k B hn0 (lastO l k hL hh) (dsO l hd hh) hB
    gl:=(st.gl.mono (K':=⟨K'.I,ρ,0,fun _ => False⟩) ⟨r3.I,fun _ _ => rfl,fun _ h => h,(inv.moves r3).same,r3.shape⟩).sub fun _ h => h
    tgt := fun i l hi hh => by
      rcases hi with hi | rfl
      · exact st.tgt i l hi hh
      · exact (htgt l hh).2
    frame := fun b hlt hne => (r3.frame b (Nat.lt_of_lt_of_le hlt st.size) fun l2 B2 h2 h3 he => by
      obtain ⟨q1,q2,B0,q3⟩:=hown l2 B2 h2 h3
      have hd:=(htgt l2 q1).2
      have he':(ρ l2).1 = b:=he
      by_cases h0:K0.D l2
      · obtain ⟨B0',q4⟩:=ba.back fa (ba.D0 l2 h0) j hjm (Nat.le_of_lt hjn) ⟨B0,q3⟩
        rw [st.ρ0 l2 h0] at he'
        exact hne l2 B0' q4 q2 he'
      · obtain ⟨k2,_,q4,q5,_⟩:=sy l2 q1
        rcases st.fresh l2 k2 B0 h0 q4 (dS l2 hd) (by rw [← q5]; exact q3) with q6 | ⟨l0,B00,q6,q7,q8⟩
        · omega
        · exact hne l0 B00 q6 q7 (q8.trans he')).trans (st.frame b hlt hne)
    shape := fun b cs e f h => by
      obtain ⟨cs1,f1,h1,s1⟩:=st.shape b cs e f h
      obtain ⟨cs2,f2,h2,s2⟩:=r3.shape b cs1 e f1 h1
      exact ⟨cs2,f2,h2,s2.trans s1⟩
    size:=Nat.le_trans st.size r3.size
    os:=r3.os.trans st.os
    tape:=r3.tape.trans st.tape
    output:=r3.output.trans st.output
    tsz:=by cases hd:o.dst <;> simp [Act.put] <;> exact st.tsz
    dfr:=by cases hd:o.dst <;> simp [Act.put] <;> exact st.dfr }
end
end Go.Fv
