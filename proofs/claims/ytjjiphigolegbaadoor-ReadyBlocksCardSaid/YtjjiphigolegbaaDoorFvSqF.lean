/-
  A table of one's own in a block of its own: what the steps of a move do to it. By an AI agent; no person has read it.
-/
import Derived.Test.YtjjiphigolegbaaDoorFvSqE
set_option linter.unusedVariables false
set_option linter.unusedSimpArgs false
set_option linter.unusedSectionVars false
/-! A table of one's own in a block of its own: what the steps of a move do to it. -/
namespace Go.Fv.Tr
open Go Go.Fv Go.Fv.Pl Go.Proofs
set_option linter.unusedSimpArgs false
set_option linter.unusedVariables false
variable {G : Nat → Option (List V)}

structure InB (K H : Heap) (lt : Nat) (u : Tab) : Prop where
  fl : H.floor = K.floor
  k0 : K.floor ≤ K.next
  old : ∀ k, k < K.next → H.blk k = K.blk k
  l2 : K.next ≤ lt
  ln : lt < H.next
  tab : ∃ x y z, H.blk lt = some ⟨3, [[x, y, z]]⟩ ∧ OwnTab H x y z u ∧ ∀ k, (loc x = some k ∨ loc y = some k ∨ loc z = some k) → K.next ≤ k ∧ k ≠ lt
  wp : ∀ p ∈ u.ps, Wp p
variable {K H H' : Heap} {lt : Nat} {u : Tab}

theorem InB.start {x y z : V} {t : Tab} (h : OwnTab H x y z t) (f : Frame K H (fun _ => False)) (hK : K.floor ≤ K.next)
    (hl : ∀ k, (loc x = some k ∨ loc y = some k ∨ loc z = some k) → K.next ≤ k) (hw : ∀ p ∈ t.ps, Wp p) : InB K ((H.add ⟨3, [[.nils, .nils, .nils]]⟩).set H.next ⟨3, [[x, y, z]]⟩) H.next t := by
  have fA : Frame H ((H.add ⟨3, [[.nils, .nils, .nils]]⟩).set H.next ⟨3, [[x, y, z]]⟩) (fun _ => False) := Frame.loc _ _
  have hn2 := f.next
  exact ⟨fA.floor.trans f.floor, hK, fun k hk => (fA.old k (by omega) id).trans (f.old k hk id), hn2, Nat.lt_succ_self _, ⟨x, y, z, by rw [Heap.set_blk, if_pos rfl], h.frame fA fun _ _ g => g,
    fun k hk => ⟨hl k hk, by have := h.lt hk; omega⟩⟩, hw⟩
theorem InB.low (h : InB K H lt u) : H.floor ≤ lt := by have := h.fl; have := h.k0; have := h.l2; omega
theorem InB.lown (h : InB K H lt u) : H.floor ≤ H.next := by have := h.low; have := h.ln; omega
theorem InB.frame {p : Nat → Prop} (h : InB K H lt u) (f : Frame H H' p) (hp : ∀ k, k < H.next → p k → K.next ≤ k ∧ k ≠ lt ∧ ∀ x y z, H.blk lt = some ⟨3, [[x, y, z]]⟩ → ¬ (loc x = some k ∨ loc y = some k ∨ loc z = some k)) : InB K H' lt u := by
  obtain ⟨x, y, z, hb, ho, hk⟩ := h.tab
  have hln := h.ln
  have hl2 := h.l2
  refine ⟨f.floor.trans h.fl, h.k0, fun k hk' => (f.old k (by omega) fun g => ?_).trans (h.old k hk'), hl2, Nat.lt_of_lt_of_le hln f.next, ⟨x, y, z, (f.old lt hln fun g => ?_).trans hb, ho.frame f fun l hl g => ?_, hk⟩, h.wp⟩
  · have := (hp k (by omega) g).1; omega
  · exact (hp lt hln g).2.1 rfl
  · exact (hp l (ho.lt hl) g).2.2 x y z hb hl
theorem InB.add (h : InB K H lt u) (b : Blk) : InB K (H.add b) lt u := h.frame (Frame.add b (fun _ => False)) fun _ _ g => g.elim
theorem InB.put {x y z : V} {v : Tab} (h : InB K H lt u) (o : OwnTab H x y z v) (hk : ∀ k, (loc x = some k ∨ loc y = some k ∨ loc z = some k) → K.next ≤ k ∧ k ≠ lt) (hw : ∀ p ∈ v.ps, Wp p) :
    InB K (H.set lt ⟨3, [[x, y, z]]⟩) lt v :=
  ⟨h.fl, h.k0, fun k hk' => (by rw [Heap.set_blk, if_neg (by have := h.l2; omega)]; exact h.old k hk'), h.l2, h.ln, ⟨x, y, z, by rw [Heap.set_blk, if_pos rfl], o.frame (Frame.set _ lt (p := fun k => k = lt) rfl) fun l hl e => (hk l hl).2 e, hk⟩, hw⟩

theorem InB.leave (n : Nat) (h : InB K H lt u) (hq : u.q.length < big) (p : Int) :
    Run (callV (cfg G) (sem (cfg G) (n + 4)) 68 [.ptr lt 0 0, .int .i64 p]) H fun _ H' => InB K H' lt { u with q := u.q.filter (· ≠ p) } ∧ H.next ≤ H'.next := by
  obtain ⟨x, y, z, hb, ho, hk⟩ := h.tab
  have hln := h.ln
  have hl2 := h.l2
  refine (leave_spec n (l := lt) (s := 3) hb ho h.low h.ln (fun e => (hk lt (.inl e)).2 rfl) (fun e => (hk lt (.inr (.inl e))).2 rfl) (fun e => (hk lt (.inr (.inr e))).2 rfl) hq p).mono fun _ H' ⟨y', b', o', f, ly⟩ => ⟨?_, f.next⟩
  refine ⟨f.floor.trans h.fl, h.k0, fun k hk' => (f.old k (by omega) fun g => ?_).trans (h.old k hk'), hl2, Nat.lt_of_lt_of_le hln f.next, ⟨x, y', z, b', o', fun j hj => ?_⟩, h.wp⟩
  · rcases g with g | g
    · omega
    · have := (hk k (.inr (.inl g))).1; omega
  · rcases hj with g | g | g
    · exact hk j (.inl g)
    · exact hk j (.inr (.inl (ly j g)))
    · exact hk j (.inr (.inr g))
theorem InB.wake (n : Nat) (h : InB K H lt u) (hok : TabOk u) {m : Int} {p : Pr} (hm : at? u.ps m = some p) (r1 : Int) :
    Run (callV (cfg G) (sem (cfg G) (n + 4)) 87 [.ptr lt 0 0, .int .i64 m, .int .u32 r1]) H fun _ H' => InB K H' lt (u.wake m r1) ∧ H.next ≤ H'.next := by
  obtain ⟨x, y, z, hb, ho, hk⟩ := h.tab
  have hlt := at?_lt hm
  obtain ⟨k, rfl⟩ := Int.eq_ofNat_of_zero_le hlt.1
  have few := ((ROk_iff u).2 hok).few
  have hl2 := h.l2
  have hln := h.ln
  refine (wake_spec n (l := lt) (s := 3) (p := k) hb ho h.low hln (fun e => (hk lt (.inl e)).2 rfl) (fun e => (hk lt (.inr (.inl e))).2 rfl) (fun e => (hk lt (.inr (.inr e))).2 rfl) (by omega) (by omega) h.wp (by omega) r1).mono fun _ H' ⟨y', z', b', o', f, ly, lz⟩ => ⟨?_, f.next⟩
  refine ⟨f.floor.trans h.fl, h.k0, fun k hk' => (f.old k (by omega) fun g => ?_).trans (h.old k hk'), hl2, Nat.lt_of_lt_of_le hln f.next, ⟨x, y', z', b', o', fun j hj => ?_⟩, wake_wp h.wp _ _⟩
  · rcases g with g | g | g | g
    · omega
    · have := (hk k (.inl g)).1; omega
    · have := (hk k (.inr (.inl g))).1; omega
    · have := (hk k (.inr (.inr g))).1; omega
  · rcases hj with g | g | g
    · exact hk j (.inl g)
    · rcases ly j g with g | g
      · exact hk j (.inr (.inl g))
      · omega
    · exact hk j (.inr (.inr (lz j g)))

theorem setP_wp {ps : List Pr} (h : ∀ p ∈ ps, Wp p) {n : Nat} (hn : n < ps.length) {f : Pr → Pr} (hf : Wp (f ps[n])) : ∀ p ∈ setP ps (n : Int) f, Wp p := by
  intro p hp
  obtain ⟨i, hi⟩ := List.getElem?_of_mem hp
  simp only [setP, Int.toNat_natCast, List.getElem?_modify] at hi
  obtain ⟨q, hq, e⟩ := Option.map_eq_some_iff.1 hi
  split at e
  · rename_i hc
    subst hc
    obtain ⟨_, e2⟩ := List.getElem?_eq_some_iff.1 hq
    subst e2
    subst e
    exact hf
  · subst e; exact h q (List.mem_of_getElem? hq)
/-- A process's row, and what a store into it leaves. -/
theorem InB.proc (h : InB K H lt u) {p : Nat} (hp : p < u.ps.length) : ∃ x y z lx b, H.blk lt = some ⟨3, [[x, y, z]]⟩ ∧ idxV 21 x (.int .i64 (p : Int)) = some (.ptr lx p 0) ∧ H.blk lx = some b ∧ b.rows[p]? = some (prRow u.ps[p]) ∧ p < b.rows.length ∧
    H.floor ≤ lx ∧ lx ≠ lt ∧ K.next ≤ lx ∧ lx < H.next ∧ ∀ f : Pr → Pr, Wp (f u.ps[p]) → InB K (H.set lx ⟨b.sz, b.rows.set p (prRow (f u.ps[p]))⟩) lt { u with ps := setP u.ps (p : Int) f } := by
  obtain ⟨x, y, z, hb, ho, hk⟩ := h.tab
  obtain ⟨lx, b, ex, hix, hbx, hrx, hfx⟩ := ho.p.idx (k := .i64) (i := p) (by simpa using hp)
  simp only [List.getElem_map] at hrx
  have hkx := hk lx (.inl ex)
  have hlx := ho.lt (.inl ex)
  refine ⟨x, y, z, lx, b, hb, hix, hbx, hrx, (List.getElem?_eq_some_iff.1 hrx).1, hfx, hkx.2, hkx.1, hlx, fun f hf => ?_⟩
  have fs : Frame H (H.set lx ⟨b.sz, b.rows.set p (prRow (f u.ps[p]))⟩) (fun k => k = lx) := Frame.set _ _ rfl
  have hx := ho.p.put (i := p) ex hbx (prRow (f u.ps[p]))
  rw [← setP_map hp (f := f)] at hx
  exact ⟨h.fl, h.k0, fun k hk' => (by rw [Heap.set_blk, if_neg (by omega)]; exact h.old k hk'), h.l2, h.ln,
    ⟨x, y, z, by rw [Heap.set_blk, if_neg (fun e => hkx.2 e.symm)]; exact hb, ⟨hx, ho.q.frame fs fun k h1 h2 => ho.pq _ ex (h2 ▸ h1), ho.s.frame fs fun k h1 h2 => ho.ps _ ex (h2 ▸ h1), ho.pq, ho.ps, ho.qs⟩, hk⟩, setP_wp h.wp hp hf⟩
/-- A number behind the queue. -/
theorem InB.app (h : InB K H lt u) (m : Int) (hlen : u.q.length ≤ 8) : ∃ x y z, H.blk lt = some ⟨3, [[x, y, z]]⟩ ∧
    Run (Fv.appV 1 8 y (.ref H.next 1 0 1 1 true)) (H.add ⟨1, [intRow m]⟩) fun y' H3 => H3.blk lt = some ⟨3, [[x, y, z]]⟩ ∧ y'.cells? = some [y'] ∧ H3.floor = H.floor ∧ H.next < H3.next ∧ InB K (H3.set lt ⟨3, [[x, y', z]]⟩) lt { u with q := u.q ++ [m] } := by
  obtain ⟨x, y, z, hb, ho, hk⟩ := h.tab
  have hln := h.ln
  have hl2 := h.l2
  have hlow := h.lown
  refine ⟨x, y, z, hb, ?_⟩
  have fa : Frame H (H.add ⟨1, [intRow m]⟩) (fun _ => False) := Frame.add _ _
  refine (Run.app (items := [intRow m]) (bytes := 8) (by show H.floor ≤ H.next + 1; omega) (ho.q.frame fa fun _ _ g => g) (by simp [itemsV, Heap.add_blk]) (by simp only [List.length_map, List.length_singleton]; unfold room; omega)).mono fun y' H3 ⟨oy, f3, l3⟩ => ?_
  have f4 : Frame H H3 (fun k => loc y = some k) := fa.trans f3 (fun _ _ g => g.elim) (fun _ _ g => g)
  have ly : ∀ k, loc y' = some k → loc y = some k ∨ H.next + 1 ≤ k := l3
  have hyl : ∀ k, loc y = some k → k < H.next := fun k hk => ho.lt (.inr (.inl hk))
  have hn3 : H.next + 1 ≤ H3.next := f3.next
  have hb3 : H3.blk lt = some ⟨3, [[x, y, z]]⟩ := (f4.old lt hln fun g => (hk lt (.inr (.inl g))).2 rfl).trans hb
  refine ⟨hb3, oy.cells, f4.floor, hn3, ?_⟩
  have o3 : OwnTab H3 x y' z { u with q := u.q ++ [m] } := by
    refine ⟨ho.p.frame f4 fun l h1 h2 => ho.pq l h1 h2, ?_, ho.s.frame f4 fun l h1 h2 => ho.qs l h2 h1, fun l h1 h2 => ?_, ho.ps, fun l h1 h2 => ?_⟩
    · have e : (u.q ++ [m]).map intRow = u.q.map intRow ++ [intRow m] := by rw [List.map_append]; rfl
      rw [e]; exact oy
    · rcases ly l h2 with g | g
      · exact ho.pq l h1 g
      · have := ho.lt (.inl h1); omega
    · rcases ly l h1 with g | g
      · exact ho.qs l g h2
      · have := ho.lt (.inr (.inr h2)); omega
  have hk' : ∀ k, (loc x = some k ∨ loc y' = some k ∨ loc z = some k) → K.next ≤ k ∧ k ≠ lt := fun k g => by
    rcases g with g | g | g
    · exact hk k (.inl g)
    · rcases ly k g with g | g
      · exact hk k (.inr (.inl g))
      · omega
    · exact hk k (.inr (.inr g))
  refine ⟨f4.floor.trans h.fl, h.k0, fun k hk2 => ?_, hl2, by show lt < H3.next; omega, ⟨x, y', z, by rw [Heap.set_blk, if_pos rfl], o3.frame (Frame.set _ lt (p := fun k => k = lt) rfl) fun l hl e => (hk' l hl).2 e, hk'⟩, h.wp⟩
  rw [Heap.set_blk, if_neg (by omega)]
  exact (f4.old k (by omega) fun g => by have := (hk k (.inr (.inl g))).1; omega).trans (h.old k hk2)
/-- What is shown of it at the end. -/
theorem InB.show (h : InB K H lt u) (hok : TabOk u) : ∃ x y z, H.blk lt = some ⟨3, [[x, y, z]]⟩ ∧ ∀ K' : Heap, (∀ k b, K.next ≤ k → k ≠ lt → H.blk k = some b → K'.blk k = some b) → ∀ ok, ∃ a b c, IsTab a b c u ∧ thaw2 ok K' (.agg [x, y, z]) = some (.agg [a, b, c]) := by
  obtain ⟨x, y, z, hb, ho, hk⟩ := h.tab
  refine ⟨x, y, z, hb, fun K' hK => ?_⟩
  have n1 : ∀ {v : V} {sz : Nat} {rows : List (List V)}, Own H v sz rows → (∀ k, loc v = some k → K.next ≤ k ∧ k ≠ lt) → Own ⟨K'.blk, H.next, H.floor⟩ v sz rows := fun {v sz rows} o hv => by
    rcases o with o | ⟨l, n, c, ex, b, rfl, h1, h2, h3, h4⟩
    · exact .inl o
    · exact .inr ⟨l, n, c, ex, b, rfl, hK _ _ (hv _ rfl).1 (hv _ rfl).2 h1, h2, h3, h4⟩
  have o' : OwnTab ⟨K'.blk, H.next, H.floor⟩ x y z u := ⟨n1 ho.p fun k g => hk k (.inl g), n1 ho.q fun k g => hk k (.inr (.inl g)), n1 ho.s fun k g => hk k (.inr (.inr g)), ho.pq, ho.ps, ho.qs⟩
  have e2 : ∀ ok (v : V), thaw2 ok K' v = thaw2 ok ⟨K'.blk, H.next, H.floor⟩ v := fun ok v => (thaw2_eq (H := ⟨K'.blk, H.next, H.floor⟩) (H' := K') (fun _ => rfl) _)
  intro ok
  obtain ⟨a, b, c, q1, q2⟩ := thaw2_tab o' h.wp hok ok
  exact ⟨a, b, c, q2, by rw [e2]; exact q1⟩
end Go.Fv.Tr
