/-
  A region whose order is open: the end. By an AI agent; no person has read it.
-/
import Derived.Test.YtjjiphigolegbaaDoorFvDrawn3
set_option linter.unusedVariables false
set_option linter.unusedSimpArgs false
set_option linter.unusedSectionVars false
/-! A region whose order is open: the end. -/
namespace Go.Fv
open Go

section
variable {C : Cfg} {σ : Nat → Addr} {call : FuncId → List V → M V} {ops : Array Oper} {hs : Nat → Heap} {es : Nat → Env} {vs : Nat → V} {bs : Nat → List (Nat × Nat × Nat × V)} {N : Nat} {K0 : Ctx} {w0 : World}

theorem ready_mem {listed : Array Bool} {j : Nat} : j ∈ Region.ready .any ops listed ↔ j < ops.size ∧ listed.getD j true = false ∧ ∃ o, ops[j]? = some o ∧ ∀ e ∈ o.after.toList, Region.binds .any e = true → listed.getD e.on false = true := by
  unfold Region.ready
  rw [List.mem_filter, List.mem_range]
  constructor
  · rintro ⟨h1, h2⟩
    rw [Bool.and_eq_true] at h2
    refine ⟨h1, by simpa using h2.1, ?_⟩
    cases ho : ops[j]? with
    | none => rw [ho] at h2; simp at h2
    | some o =>
      rw [ho] at h2
      refine ⟨o, rfl, fun e he hb => ?_⟩
      have h3 := h2.2
      simp only [Option.map_some, Option.getD_some] at h3
      rw [Array.all_eq_true'] at h3
      have := h3 e (Array.mem_toList_iff.1 he)
      rw [hb] at this
      simpa using this
  · rintro ⟨h1, h2, o, ho, h3⟩
    refine ⟨h1, ?_⟩
    rw [Bool.and_eq_true]
    refine ⟨by simp [h2], ?_⟩
    rw [ho]
    simp only [Option.map_some, Option.getD_some]
    rw [Array.all_eq_true']
    intro e he
    cases hb : Region.binds .any e with
    | false => rfl
    | true => simpa using h3 e (Array.mem_toList_iff.2 he) hb

/-- The run has ended: it stands where the run in the order of the text stands. -/
theorem st_end (ba : Base C σ call ops hs es vs bs N K0 w0) (fa : Fa hs ops.size) {S : Nat → Prop} (hS : ∀ i, i < ops.size → S i) {I : Nat → Prop} {ρ : Nat → Nat × Nat × Nat} {a : Act} {w : World} (st : St C σ ops hs es N K0 w0 S I ρ a w) :
    ∃ K', Inv σ K' (hs ops.size) w ∧ GlobOk C σ K' w ∧ EnvRel σ K' w N (es ops.size) a ∧ Evo K0 (hs 0) w0 K' (hs ops.size) w := by
  have lst : ∀ p : Nat → Prop, (∀ i, p i → i < ops.size) → ∃ k, k ≤ ops.size ∧ Last S p k ∧ ∀ i, p i → i < k := fun p hp => by
    obtain ⟨k, h1, h2, h3⟩ := lastBelow p ops.size
    exact ⟨k, h1, ⟨h2.imp id fun h => ⟨hS _ (hp _ h), h⟩, fun i _ hi => h3 i hi (hp i hi)⟩, fun i hi => h3 i hi (hp i hi)⟩
  have hitlt : ∀ l i, hit C ops hs es l i → i < ops.size := fun l i h => h.1
  have blkAt : ∀ l, ∃ k, Last S (hit C ops hs es l) k ∧ (hs ops.size).blk l = (hs k).blk l := fun l => by
    obtain ⟨k, k1, k2, k3⟩ := lst (hit C ops hs es l) (hitlt l)
    exact ⟨k, k2, ba.unch fa ops.size k1 (Nat.le_refl _) (Nat.le_refl _) fun i hi _ hh => by have := k3 i hh; omega⟩
  have dsAll : ∀ l B, (hs ops.size).blk l = some B → dset K0 ops.size hs S l := fun l B hB => by
    have hlt := fa.bnd ops.size (Nat.le_refl _) l B hB
    have : ∀ m, m ≤ ops.size → l < (hs m).next → l < (hs 0).next ∨ ∃ i, i < ops.size ∧ born hs l i := by
      intro m
      induction m with
      | zero => exact fun _ h => .inl h
      | succ m ih =>
        intro hm hl
        rcases Nat.lt_or_ge l (hs m).next with g | g
        · exact ih (by omega) g
        · exact .inr ⟨m, by omega, g, hl⟩
    rcases this ops.size (Nat.le_refl _) hlt with h | ⟨i, h1, h2⟩
    · obtain ⟨B0, hB0⟩ := ba.back fa h ops.size (Nat.le_refl _) (Nat.le_refl _) ⟨B, hB⟩
      exact .inl (ba.inv0.blk l B0 hB0).lt
    · exact .inr ⟨i, h1, hS i h1, h2⟩
  have dlt : ∀ l, dset K0 ops.size hs S l → l < (hs ops.size).next := fun l h => dset_lt fa (Nat.le_refl _) ba.D0 (fun i hi => (st.clo i hi).1) h
  have up : ∀ (A : Nat → Prop), (∀ i, A i → S i) → Moves ⟨I, ρ, 0, dset K0 ops.size hs A⟩ ⟨I, ρ, (hs ops.size).next, dset K0 ops.size hs S⟩ w w := fun A hA =>
    ⟨fun _ h => h, fun _ _ => rfl, fun l h => dset_mono hA h, fun _ _ => rfl, fun b cs e f h => ⟨cs, f, h, rfl⟩⟩
  have uptoS : ∀ j i, S j → upto ops j i → S i := fun j i hj h => by
    rcases h with rfl | h
    · exact hj
    · exact (st.clo j hj).2 i h
  refine ⟨⟨I, ρ, (hs ops.size).next, dset K0 ops.size hs S⟩, ⟨rfl, dlt, ?_, fun l B hB => ?_, fun l l' B B' hB hB' he => ?_, st.imm⟩, st.gl.sub fun _ h => h, ⟨st.tsz, st.dfr, fun t => ?_⟩, ?_⟩
  · rw [ba.floor fa ops.size (Nat.le_refl _) (Nat.le_refl _)]
    exact Nat.le_trans ba.inv0.flo (fa.mono (Nat.zero_le _) (Nat.le_refl _))
  · obtain ⟨k, k1, k2⟩ := blkAt l
    have hbl := st.blk l k B k1 (dsAll l B hB) (by rw [← k2]; exact hB)
    exact hbl.move (up _ fun i ⟨j, h1, _, h3⟩ => uptoS j i h1 h3) rfl hbl.own
  · obtain ⟨k, k1, k2⟩ := blkAt l
    obtain ⟨k', k1', k2'⟩ := blkAt l'
    exact st.inj l l' k k' B B' k1 k1' (dsAll l B hB) (dsAll l' B' hB') (by rw [← k2]; exact hB) (by rw [← k2']; exact hB') he
  · obtain ⟨k, k1, k2, k3⟩ := lst (wr ops t) (fun i ⟨o, ho, _⟩ => (Array.getElem?_eq_some_iff.1 ho).1)
    rw [ba.esame ops.size k1 (Nat.le_refl _) fun i hi _ hw => by have := k3 i hw; omega]
    refine (st.slot t k k2).mono (up _ fun i ⟨h1, h2⟩ => ?_)
    rcases k2.1 with h0 | ⟨h3, _⟩
    · exact absurd h0 h1
    · exact uptoS _ i h3 h2
  · exact {
      I := st.I0
      ρ := st.ρ0
      D := fun l h => .inl h
      nx := by rw [ba.inv0.nx]; exact fa.mono (Nat.zero_le _) (Nat.le_refl _)
      floor := ba.floor fa ops.size (Nat.le_refl _) (Nat.le_refl _)
      low := fun l h1 h2 => by
        have : ∀ j, j ≤ ops.size → (hs j).blk l = (hs 0).blk l := by
          intro j
          induction j with
          | zero => exact fun _ => rfl
          | succ j ih =>
            intro hj
            rw [← ih (by omega)]
            have hv := ba.vsAt fa (i := j) (by omega) (by omega)
            refine Classical.byContradiction fun hc => ?_
            have h3 := hv.lo l (Nat.lt_of_lt_of_le h2 (fa.mono (Nat.zero_le j) (by omega))) hc
            rw [ba.floor fa j (by omega) (by omega)] at h3
            omega
        exact this ops.size (Nat.le_refl _)
      frame := st.frame
      shape := st.shape
      size := st.size
      os := st.os
      tape := st.tape
      output := st.output
      range := fun l B hB hlt => by
        obtain ⟨k, k1, k2⟩ := blkAt l
        have hd := dsAll l B hB
        by_cases h0 : K0.D l
        · obtain ⟨B0, hB0⟩ := ba.back fa (ba.D0 l h0) ops.size (Nat.le_refl _) (Nat.le_refl _) ⟨B, hB⟩
          exact ⟨l, B0, hB0, by show (K0.ρ l).1 = (ρ l).1; rw [st.ρ0 l h0], .inl rfl⟩
        · have := st.fresh l k B h0 k1 hd (by rw [← k2]; exact hB)
          have hlt' : (ρ l).1 < w0.heap.size := hlt
          omega
      newI := st.newI
      newD := fun l h hlt => by
        rw [ba.inv0.nx] at hlt
        rcases h with h | ⟨i, h1, _, h3⟩
        · exact h
        · have := fa.mono (Nat.zero_le i) (Nat.le_of_lt h1)
          have := h3.1
          omega }

theorem all_of (good : Good C σ) (SF : ∀ f, SoundF C σ f (call f)) (ba : Base C σ call ops hs es vs bs N K0 w0) (fa : Fa hs ops.size) {Q : Exit → Act → World → Prop}
    (fin : ∀ S I ρ a w, (∀ i, i < ops.size → S i) → St C σ ops hs es N K0 w0 S I ρ a w → Q .normal a w) :
    ∀ (fuel : Nat) (listed : Array Bool) (a : Act) (w : World) (I : Nat → Prop) (ρ : Nat → Nat × Nat × Nat), listed.size = ops.size → listed.toList.countP (!·) ≤ fuel → St C σ ops hs es N K0 w0 (fun i => listed.getD i false = true) I ρ a w →
      wpAny C.P .any ops Q fuel listed a w := by
  have done : ∀ (listed : Array Bool), listed.size = ops.size → Region.ready .any ops listed = [] → ∀ i, i < ops.size → listed.getD i false = true := by
    intro listed hsz hr i
    induction i using Nat.strongRecOn with
    | _ i ih =>
      intro hi
      cases hl : listed.getD i false with
      | true => rfl
      | false =>
        have : i ∈ Region.ready .any ops listed := by
          refine ready_mem.2 ⟨hi, ?_, ops[i], Array.getElem?_eq_getElem hi, fun e he hb => ?_⟩
          · rw [Array.getD_eq_getD_getElem?] at hl ⊢
            rw [Array.getElem?_eq_getElem (by omega)] at hl ⊢
            exact hl
          · have := ba.od.edge i _ (Array.getElem?_eq_getElem hi) e he hb
            exact ih e.on this (by omega)
        rw [hr] at this
        cases this
  intro fuel
  induction fuel with
  | zero =>
    intro listed a w I ρ hsz hc st
    have hall : ∀ i, i < ops.size → listed.getD i false = true := fun i hi => by
      have h0 : listed.toList.countP (!·) = 0 := by omega
      rw [List.countP_eq_zero] at h0
      have hi' : i < listed.size := by omega
      have := h0 listed[i] (by simp)
      rw [Array.getD_eq_getD_getElem?, Array.getElem?_eq_getElem hi']
      simpa using this
    refine ⟨?_, fin _ I ρ a w hall st⟩
    cases hr : Region.ready .any ops listed with
    | nil => rfl
    | cons x xs =>
      have hx : x ∈ Region.ready .any ops listed := by rw [hr]; exact List.mem_cons_self ..
      obtain ⟨h1, h2, _⟩ := ready_mem.1 hx
      have := hall x h1
      rw [Array.getD_eq_getD_getElem?] at this h2
      rw [Array.getElem?_eq_getElem (by omega)] at this h2
      simp at this h2
      rw [this] at h2; cases h2
  | succ fuel ih =>
    intro listed a w I ρ hsz hc st
    refine ⟨fun hr => fin _ I ρ a w (done listed hsz hr) st, fun j hjr => ?_⟩
    obtain ⟨hjn, hjl, o, ho, hed⟩ := ready_mem.1 hjr
    have hjl' : listed[j]? = some false := by
      rw [Array.getD_eq_getD_getElem?, Array.getElem?_eq_getElem (by omega)] at hjl
      rw [Array.getElem?_eq_getElem (by omega)]
      simpa using hjl
    refine stepAt good SF ba fa (S := fun i => listed.getD i false = true) (fun i hi => (st.clo i hi).1) (Nat.le_refl _) st (Nat.le_of_lt hjn) hjn (by rw [Array.getD_eq_getD_getElem?, hjl']; simp) (fun i hi => ?_) fun a' w' h => ?_
    · obtain ⟨e, h1, h2, h3⟩ := (bef_iff ba.od ho i).1 hi
      have := hed e h1 h2
      rcases h3 with rfl | h3
      · exact this
      · exact (st.clo _ this).2 i h3
    · obtain ⟨_, I', ρ', st'⟩ := h
      refine ih (listed.setIfInBounds j true) a' w' I' ρ' (by simpa using hsz) ?_ ?_
      · have hjlt : j < listed.toList.length := by rw [Array.length_toList, hsz]; exact hjn
        have hcnt : (listed.setIfInBounds j true).toList.countP (!·) + 1 = listed.toList.countP (!·) := by
          rw [Array.toList_setIfInBounds, List.countP_set hjlt]
          have : listed.toList[j] = false := by
            have := (Array.getElem?_eq_some_iff.1 hjl').2
            simpa using this
          have hpos : 0 < listed.toList.countP (!·) := List.countP_pos_iff.2 ⟨false, by rw [← this]; exact List.getElem_mem _, rfl⟩
          rw [this]
          simp only [Bool.not_false, Bool.not_true, if_true, Bool.false_eq_true, if_false, Nat.add_zero]
          have := hpos
          omega
        omega
      · have e : (fun i => (listed.setIfInBounds j true).getD i false = true) = fun i => listed.getD i false = true ∨ i = j := by
          funext i
          apply propext
          simp only [Array.getD_eq_getD_getElem?]
          by_cases e : i = j
          · subst e
            simp; omega
          · rw [Array.getElem?_setIfInBounds_ne (Ne.symm e)]
            simp [e]
        rw [e]; exact st'

theorem drawn_ok (good : Good C σ) (SF : ∀ f, SoundF C σ f (call f)) : DrawnOk C σ call := by
  intro ops N Kc r K H w env a id inv gl er hN hok hrun
  obtain ⟨hs, es, vs, bs, q1, q2, q3, q4, q5⟩ := trace_of (n0 := H.next) ops.toList 0 [] env H (by simp) hrun
  simp only [Nat.zero_add, Array.length_toList] at q4 q5
  obtain ⟨inv', evo'⟩ := inv.drew
  have mv := inv.moves evo'
  subst q1; subst q2
  have ba : Base C σ call ops hs es vs bs N K w.drew := ⟨ord_of hok, q4, q3, inv', hN⟩
  have gl' := gl.mono mv
  have er' := er.mono mv
  have fa := (fa_all good SF ba gl' er' ops.size (Nat.le_refl _)).1
  refine wp_region_any good.mixed ?_
  refine all_of good SF ba fa (fun S I ρ a' w' hS st => ?_) ops.size (Array.replicate ops.size false) a w.drew K.I K.ρ (by simp) ?_ ?_
  · obtain ⟨K', i1, i2, i3, i4⟩ := st_end ba fa hS st
    refine ⟨.normal, es ops.size, K', hs ops.size, rfl, i1, i2, i3, Evo.trans inv inv' evo' i4, fun t ht => ?_, q5⟩
    exact ba.esame ops.size (Nat.zero_le _) (Nat.le_refl _) fun i _ _ ⟨o, ho, hd⟩ => ht (mem_dsts (Array.mem_toList_iff.2 (Array.mem_of_getElem? ho)) hd)
  · exact Nat.le_trans List.countP_le_length (by simp)
  · have := st_zero (I := K.I) ba gl' er'
    have e : (fun i => (Array.replicate ops.size false).getD i false = true) = fun _ => False := by
      funext i
      apply propext
      simp only [Array.getD_eq_getD_getElem?, iff_false]
      cases h : (Array.replicate ops.size false)[i]? with
      | none => simp
      | some b => rw [Array.getElem?_replicate] at h; split at h <;> simp at h; subst h; simp
    rw [e]; exact this

/-- Every plain meaning is sound. -/
theorem sound (good : Good C σ) (n : Nat) (f : FuncId) : SoundF C σ f (sem C n f) := ok_sem good (fun _ SF => drawn_ok good SF) n f
end
end Go.Fv
