/-
  What the functions of the layer 9 answer: WakeAll and Fire of the program. By an AI agent; no person has read it.
-/
import Derived.Test.YtjjiphigolegbabGreatDoorFvSpV
set_option linter.unusedVariables false
set_option linter.unusedSimpArgs false
set_option linter.unusedSectionVars false
/-! What the functions of the layer 9 answer: WakeAll and Fire of the program. -/
namespace Go.Fv.Tr
open Go Go.Fv Go.Fv.Pl Go.Proofs
set_option linter.unusedSimpArgs false
set_option linter.unusedVariables false
variable {G : Nat → Option (List V)}

theorem thaw2_tab {H : Heap} {x y z : V} {t : Tab} (h : OwnTab H x y z t) (hw : ∀ p ∈ t.ps, Wp p) (hb : TabOk t) (ok : Bool) : ∃ a b c, thaw2 ok H (.agg [x, y, z]) = some (.agg [a, b, c]) ∧ IsTab a b c t := by
  obtain ⟨a, a1, a2⟩ := h.p.thaw (flat_pr _) ok
  obtain ⟨b, b1, b2⟩ := h.q.thaw (flat_ir _) ok
  obtain ⟨c, c1, c2⟩ := h.s.thaw (flat_tm _) ok
  have e1 : [x, y, z].mapM (thaw ok H) = some [a, b, c] := by simp [a1, b1, c1]
  exact ⟨a, b, c, by simp only [thaw2, e1]; rfl, a2, b2, c2, hw, big_of hb⟩
theorem thaw2_none (ok : Bool) (H : Heap) : thaw2 ok H (.agg [.nils, .nils, .nils]) = some (.agg [.nils, .nils, .nils]) := by simp [thaw2, thaw, V.flat]

/-- A table of one's own in a block of its own, behind two others. -/
structure InT (H : Heap) (lt : Nat) (u : Tab) : Prop where
  fl : H.floor = 0
  b1 : H.blk 1 = some ⟨3, [[.nils, .nils, .nils]]⟩
  l2 : 2 ≤ lt
  ln : lt < H.next
  tab : ∃ x y z, H.blk lt = some ⟨3, [[x, y, z]]⟩ ∧ OwnTab H x y z u ∧ ∀ k, (loc x = some k ∨ loc y = some k ∨ loc z = some k) → 2 ≤ k ∧ k ≠ lt
  wp : ∀ p ∈ u.ps, Wp p

theorem wake_step (n : Nat) {H : Heap} {lt : Nat} {u : Tab} (h : InT H lt u) (hok : TabOk u) {m : Int} {p : Pr} (hm : at? u.ps m = some p) (r1 : Int) :
    Run (callV (cfg G) (sem (cfg G) (n + 4)) 38 [.ptr lt 0 0, .int .i64 m, .int .u32 r1]) H fun _ H' => InT H' lt (u.wake m r1) := by
  obtain ⟨x, y, z, hb, ho, hk⟩ := h.tab
  have hlt := at?_lt hm
  obtain ⟨k, rfl⟩ := Int.eq_ofNat_of_zero_le hlt.1
  have few := ((ROk_iff u).2 hok).few
  have hl2 := h.l2
  have hln := h.ln
  refine (wake_spec n (l := lt) (s := 3) (p := k) hb ho (by rw [h.fl]; exact Nat.zero_le _) hln (fun e => (hk lt (.inl e)).2 rfl) (fun e => (hk lt (.inr (.inl e))).2 rfl) (fun e => (hk lt (.inr (.inr e))).2 rfl) (by omega) (by omega) h.wp (by omega) r1).mono fun _ H' ⟨y', z', b', o', f, ly, lz⟩ => ?_
  refine ⟨f.floor.trans h.fl, (f.old 1 (by omega) fun g => ?_).trans h.b1, hl2, Nat.lt_of_lt_of_le hln f.next, ⟨x, y', z', b', o', fun j hj => ?_⟩, wake_wp h.wp _ _⟩
  · rcases g with g | g | g | g
    · omega
    · have := (hk 1 (.inl g)).1; omega
    · have := (hk 1 (.inr (.inl g))).1; omega
    · have := (hk 1 (.inr (.inr g))).1; omega
  · rcases hj with g | g | g
    · exact hk j (.inl g)
    · rcases ly j g with g | g
      · exact hk j (.inr (.inl g))
      · omega
    · exact hk j (.inr (.inr (lz j g)))

theorem InT.start {H0 H : Heap} {x y z : V} {t : Tab} (h : OwnTab H x y z t) (f : Frame H0 H (fun _ => False)) (h0 : H0.floor = 0) (hn : 2 ≤ H0.next) (b1 : H0.blk 1 = some ⟨3, [[.nils, .nils, .nils]]⟩)
    (hl : ∀ k, (loc x = some k ∨ loc y = some k ∨ loc z = some k) → H0.next ≤ k) (hw : ∀ p ∈ t.ps, Wp p) : InT ((H.add ⟨3, [[.nils, .nils, .nils]]⟩).set H.next ⟨3, [[x, y, z]]⟩) H.next t := by
  have fA : Frame H ((H.add ⟨3, [[.nils, .nils, .nils]]⟩).set H.next ⟨3, [[x, y, z]]⟩) (fun _ => False) := Frame.loc _ _
  have hn2 := f.next
  exact ⟨(fA.floor.trans f.floor).trans h0, (fA.old 1 (by omega) id).trans ((f.old 1 (by omega) id).trans b1), by omega, Nat.lt_succ_self _, ⟨x, y, z, by rw [Heap.set_blk, if_pos rfl], h.frame fA fun _ _ g => g,
    fun k hk => ⟨by have := hl k hk; omega, by have := h.lt hk; omega⟩⟩, hw⟩

theorem wakes_next (t : Tab) (r : Pr → Int) {l : List Int} {i : Nat} (h : i < l.length) {p : Pr} (hp : at? (t.wakes r (l.take i)).ps l[i] = some p) : t.wakes r (l.take (i + 1)) = (t.wakes r (l.take i)).wake l[i] (r p) := by
  rw [take_snoc h, wakes_append]
  show ((t.wakes r (l.take i)).wake l[i] _).wakes r [] = _
  rw [hp]; rfl
theorem nodup_take {α : Type} {l : List α} (h : l.Nodup) (i : Nat) : (l.take i).Nodup := h.sublist (List.take_sublist i l)
theorem nodup_get {α : Type} {l : List α} (h : l.Nodup) {i : Nat} (hi : i < l.length) : l[i] ∉ l.take i := fun hm => by
  have := nodup_take h (i + 1)
  rw [take_snoc hi, List.nodup_append] at this
  exact this.2.2 _ hm _ (List.mem_singleton.2 rfl) rfl

/-- What a list of who is to be woken must be. -/
structure Wl (t : Tab) (l : List Int) : Prop where
  nd : l.Nodup
  st : ∀ n ∈ l, (at? t.ps n).map Pr.state = some 2
theorem Wl.ok {t : Tab} {l : List Int} (h : Wl t l) (ht : TabOk t) (r : Pr → Int) (i : Nat) : TabOk (t.wakes r (l.take i)) := ht.wakes (nodup_take h.nd i) fun n hn => h.st n (List.mem_of_mem_take hn)
theorem Wl.at {t : Tab} {l : List Int} (h : Wl t l) (r : Pr → Int) {i : Nat} (hi : i < l.length) : ∃ p, at? t.ps l[i] = some p ∧ p.state = 2 ∧ at? (t.wakes r (l.take i)).ps l[i] = some p := by
  obtain ⟨p, hp, hs⟩ := Option.map_eq_some_iff.1 (h.st _ (List.getElem_mem hi))
  refine ⟨p, hp, hs, ?_⟩
  rw [wakes_at (fun n hn => ?_) (nodup_get h.nd hi)]
  · exact hp
  · obtain ⟨q, hq, _⟩ := Option.map_eq_some_iff.1 (h.st n (List.mem_of_mem_take hn))
    exact (at?_lt hq).1
theorem Wl.len {t : Tab} {l : List Int} (h : Wl t l) (ht : TabOk t) : l.length ≤ 8 := by
  refine nodup_lenI h.nd fun n hn => ?_
  obtain ⟨q, hq, _⟩ := Option.map_eq_some_iff.1 (h.st n hn)
  have := at?_lt hq
  have := ht.few
  omega
theorem wt_wl {t : Tab} (w o : Int) : Wl t (wt t.ps w o) := ⟨wt_nodup _ _ _, fun n hn => by
  obtain ⟨p, hp, hw⟩ := mem_wt.1 hn
  rw [hp]; exact congrArg some hw.1⟩
theorem dues_wl {t : Tab} (h : TabOk t) (now : Int) : Wl t (dues t.ts now) := ⟨dues_nodup h.ts now, dues_wait h now⟩

def Ans2 (t : Tab) (u : Tab) (r : V) : Prop := (TabOk t ∧ ∃ a b c, r = .tuple [.agg [a, b, c], .nili] ∧ IsTab a b c u) ∨ (¬ TabOk t ∧ r = badV 1)
set_option maxRecDepth 20000 in
theorem wakeAll_spec (h0 : G 1 = some [errV 1]) (hE : Errs G) (n : Nat) {x y z : V} {t : Tab} (h : IsTab x y z t) (w o r1 : Int) :
    ∃ r, callV (cfg G) (sem (cfg G) (n + 8)) 42 [.agg [x, y, z], .int .i64 w, .int .i64 o, .int .u32 r1] = M.ret r ∧ Ans2 t (t.wakes (fun _ => r1) (wt t.ps w o)) r := by
  refine callV_pureE rfl (by simp [h.closed, cI]) ?_
  rw [ferry_ready_WakeAll_eq]
  simp only [ferry_ready_WakeAll]
  by_cases hok : TabOk t
  · have few := ((ROk_iff t).2 hok).few
    have sm := small_of hok
    (repeat' (first | (simp only [wp, extractV, exists_eq_left', if_true, if_false, ite_true, ite_false, reduceIte, Nat.reduceAdd, Nat.reduceLT, Nat.reduceLeDiff, Nat.reduceEqDiff, ready_good_spec hE _ h, decide_eq_true hok]) | (with_reducible refine Run.gC ?_ ?_ <;> intro hb <;> try simp only [hb]) | (with_reducible refine Run.gG ?_ ?_ <;> intro hb <;> try simp only [hb]) | (with_reducible refine Run.gQ ?_ ?_ <;> intro hb <;> try simp only [hb])))
    refine (copied_spec _ h sm (by exact Nat.zero_le _)).mono fun v H1 ⟨a, b, c, e, o1, f1, l1⟩ => ?_
    subst e
    have hin := InT.start o1 f1 rfl (by exact Nat.le_refl 2) rfl l1 h.wp
    have c0 : H1.blk 0 = some ⟨3, [[x, y, z]]⟩ := (f1.old 0 (by exact Nat.zero_lt_succ _) id).trans rfl
    have hn2 : 2 ≤ H1.next := f1.next
    have hfl : H1.floor = 0 := f1.floor
    have hz0 : ¬ 0 = H1.next := by omega
    obtain ⟨ws, ew, sw⟩ := (waiters_spec (G := G) (n + 6) h (by have := sm.p; omega) w o).eq rfl (by simp [h.closed, cI])
    have wl := wt_wl (t := t) w o
    have wlen := wl.len hok
    (repeat' (first | (simp only [wp, extractV, exists_eq_left', if_true, if_false, ite_true, ite_false, reduceIte, Nat.reduceAdd, Nat.reduceLT, Nat.reduceLeDiff, Nat.reduceEqDiff, c0, hfl, hz0, ew, sw.len, List.length_map]) | (with_reducible refine Run.gC ?_ ?_ <;> intro hb <;> try simp only [hb]) | (with_reducible refine Run.gG ?_ ?_ <;> intro hb <;> try simp only [hb]) | (with_reducible refine Run.gQ ?_ ?_ <;> intro hb <;> try simp only [hb])))
    generalize wt t.ps w o = L at sw wl wlen ⊢
    refine Run.loop (N := L.length) (fun i s H => s = [.int .i64 (i : Nat)] ∧ InT H H1.next (t.wakes (fun _ => r1) (L.take i))) ⟨rfl, hin⟩ ?_
    rintro i s H hi ⟨rfl, hT⟩
    by_cases hlt : i < L.length
    · have h2 := sw.idx (k := .i64) (i := i) (by simpa using hlt)
      simp only [List.getElem_map] at h2
      obtain ⟨p, hp, _, hp2⟩ := wl.at (fun _ => r1) hlt
      simp only [ferry_ready_WakeAll_l1]
      (repeat' (first | (simp only [wp, extractV, exists_eq_left', if_true, if_false, ite_true, ite_false, reduceIte, Nat.reduceAdd, Nat.reduceLT, Nat.reduceLeDiff, Nat.reduceEqDiff, ltT hlt, h2, ir_at]) | (with_reducible refine Run.gC ?_ ?_ <;> intro hb <;> try simp only [hb]) | (with_reducible refine Run.gG ?_ ?_ <;> intro hb <;> try simp only [hb]) | (with_reducible refine Run.gQ ?_ ?_ <;> intro hb <;> try simp only [hb])))
      refine (wake_step _ hT (wl.ok hok _ i) hp2 r1).mono fun _ H2 hT2 => ?_
      (repeat' (first | (simp only [wp, extractV, exists_eq_left', if_true, if_false, ite_true, ite_false, reduceIte, Nat.reduceAdd, Nat.reduceLT, Nat.reduceLeDiff, Nat.reduceEqDiff, addN hlt (show L.length ≤ big by unfold big; omega)]) | (with_reducible refine Run.gC ?_ ?_ <;> intro hb <;> try simp only [hb]) | (with_reducible refine Run.gG ?_ ?_ <;> intro hb <;> try simp only [hb]) | (with_reducible refine Run.gQ ?_ ?_ <;> intro hb <;> try simp only [hb])))
      exact ⟨hlt, by rw [wakes_next t _ hlt hp2]; exact hT2⟩
    · simp only [ferry_ready_WakeAll_l1]
      rw [take_all (by omega)] at hT
      obtain ⟨x', y', z', hb, ho, hk⟩ := hT.tab
      have hok' := wl.ok hok (fun _ => r1) L.length
      rw [take_all (Nat.le_refl _)] at hok'
      (repeat' (first | (simp only [wp, extractV, exists_eq_left', if_true, if_false, ite_true, ite_false, reduceIte, Nat.reduceAdd, Nat.reduceLT, Nat.reduceLeDiff, Nat.reduceEqDiff, ltF hlt, hb, hT.fl, hT.b1, tupV]) | (with_reducible refine Run.gC ?_ ?_ <;> intro hb <;> try simp only [hb]) | (with_reducible refine Run.gG ?_ ?_ <;> intro hb <;> try simp only [hb]) | (with_reducible refine Run.gQ ?_ ?_ <;> intro hb <;> try simp only [hb])))
      have fB : Frame H (H.set 1 ⟨3, [[x', y', z']]⟩) (fun k => k = 1) := Frame.set _ _ rfl
      obtain ⟨a', b', c', q1, q2⟩ := thaw2_tab (ho.frame fB fun k hk1 e => by have := (hk k hk1).1; omega) hT.wp hok' true
      exact ⟨_, thawV_tup (mapM2 q1 (thaw2_nili _ _)), .inl ⟨hok, a', b', c', rfl, q2⟩⟩
  · (repeat' (first | (simp only [wp, extractV, exists_eq_left', if_true, if_false, ite_true, ite_false, reduceIte, Nat.reduceAdd, Nat.reduceLT, Nat.reduceLeDiff, Nat.reduceEqDiff, ready_good_spec hE _ h, decide_eq_false hok, buildV, fill, glob_at h0, tupV]) | (with_reducible refine Run.gC ?_ ?_ <;> intro hb <;> try simp only [hb]) | (with_reducible refine Run.gG ?_ ?_ <;> intro hb <;> try simp only [hb]) | (with_reducible refine Run.gQ ?_ ?_ <;> intro hb <;> try simp only [hb])))
    exact ⟨rfl, _, thaw_bad _ _, .inr ⟨hok, rfl⟩⟩

theorem ts8 {t : Tab} (h : TabOk t) : TsOk 8 t.ts := by
  have h1 := TsOk_iff.1 h.ts
  have h2 := h.few
  exact TsOk_iff.2 ⟨fun m hm => by have := h1.1 m hm; simp only [right] at this ⊢; omega, h1.2⟩
def Ans3 (t : Tab) (u : Tab) (l : List Int) (r : V) : Prop := (TabOk t ∧ ∃ a b c d, r = .tuple [.agg [a, b, c], d, .nili] ∧ IsTab a b c u ∧ Sls d 1 (l.map intRow)) ∨ (¬ TabOk t ∧ r = .tuple [.agg [.nils, .nils, .nils], .nils, errV 1])
theorem sls_thaw2 {x : V} {sz : Nat} {rows : List (List V)} (h : Sls x sz rows) (H : Heap) : thaw2 true H x = some x := by
  rcases h with rfl | ⟨_, rfl | rfl⟩ <;> simp [thaw2, thaw, V.flat, V.closed]
set_option maxRecDepth 20000 in
theorem fireR_spec (hT : TErrs G) (hE : Errs G) (n : Nat) {x y z : V} {t : Tab} (h : IsTab x y z t) (now : Int) :
    ∃ r, callV (cfg G) (sem (cfg G) (n + 8)) 43 [.agg [x, y, z], .int .i64 now] = M.ret r ∧ Ans3 t (t.fire now) (dues t.ts now) r := by
  refine callV_pureE rfl (by simp [h.closed, cI]) ?_
  rw [ferry_ready_Fire_eq]
  simp only [ferry_ready_Fire]
  by_cases hok : TabOk t
  · have few := ((ROk_iff t).2 hok).few
    have sm := small_of hok
    obtain ⟨rf, ef, hf2⟩ := (fire_spec hT (n + 2) h.s h.big.2.2 now).eq rfl (by simp [h.s.closedV, cI])
    rcases hf2 with ⟨_, ds, rest, rfl, sw, _⟩ | ⟨hbad, _⟩
    case inr => exact absurd (ts8 hok) hbad
    (repeat' (first | (simp only [wp, extractV, exists_eq_left', if_true, if_false, ite_true, ite_false, reduceIte, Nat.reduceAdd, Nat.reduceLT, Nat.reduceLeDiff, Nat.reduceEqDiff, ready_good_spec hE _ h, decide_eq_true hok, ef]) | (with_reducible refine Run.gC ?_ ?_ <;> intro hb <;> try simp only [hb]) | (with_reducible refine Run.gG ?_ ?_ <;> intro hb <;> try simp only [hb]) | (with_reducible refine Run.gQ ?_ ?_ <;> intro hb <;> try simp only [hb])))
    refine (copied_spec _ h sm (by exact Nat.zero_le _)).mono fun v H1 ⟨a, b, c, e, o1, f1, l1⟩ => ?_
    subst e
    have hin := InT.start o1 f1 rfl (by exact Nat.le_refl 2) rfl l1 h.wp
    have hfl : H1.floor = 0 := f1.floor
    have wl := dues_wl hok now
    have wlen := wl.len hok
    (repeat' (first | (simp only [wp, extractV, exists_eq_left', if_true, if_false, ite_true, ite_false, reduceIte, Nat.reduceAdd, Nat.reduceLT, Nat.reduceLeDiff, Nat.reduceEqDiff, hfl, sw.len, List.length_map]) | (with_reducible refine Run.gC ?_ ?_ <;> intro hb <;> try simp only [hb]) | (with_reducible refine Run.gG ?_ ?_ <;> intro hb <;> try simp only [hb]) | (with_reducible refine Run.gQ ?_ ?_ <;> intro hb <;> try simp only [hb])))
    unfold Tab.fire
    generalize dues t.ts now = L at sw wl wlen ⊢
    refine Run.loop (N := L.length) (fun i s H => s = [.int .i64 (i : Nat)] ∧ InT H H1.next (t.wakes lateOf (L.take i))) ⟨rfl, hin⟩ ?_
    rintro i s H hi ⟨rfl, hT⟩
    by_cases hlt : i < L.length
    · have h2 := sw.idx (k := .i64) (i := i) (by simpa using hlt)
      simp only [List.getElem_map] at h2
      obtain ⟨p, hp, _, hp2⟩ := wl.at lateOf hlt
      obtain ⟨x', y', z', hb, ho, hk⟩ := hT.tab
      have hpn := at?_some.1 hp2
      have hpl := (List.getElem?_eq_some_iff.1 hpn.2).1
      obtain ⟨lx, bx, _, hix, hbx, hrx, _⟩ := ho.p.idx (k := .i64) (i := L[i].toNat) (by simpa using hpl)
      have hpe : (t.wakes lateOf (L.take i)).ps[L[i].toNat] = p := (List.getElem?_eq_some_iff.1 hpn.2).2
      simp only [List.getElem_map, hpe] at hrx
      rw [Int.toNat_of_nonneg hpn.1] at hix
      have hwp := hT.wp p (List.mem_of_getElem? hpn.2)
      have step := fun r1 => wake_step (G := G) (n + 3) hT (wl.ok hok _ i) hp2 r1
      have next := wakes_next t lateOf hlt hp2
      simp only [ferry_ready_Fire_l1, ferry_ready_Fire_j1]
      (repeat' (first | (simp only [wp, extractV, exists_eq_left', if_true, if_false, ite_true, ite_false, reduceIte, Nat.reduceAdd, Nat.reduceLT, Nat.reduceLeDiff, Nat.reduceEqDiff, ltT hlt, h2, ir_at, hb, hix, hbx, hrx, pr_wait hwp]) | (with_reducible refine Run.gC ?_ ?_ <;> intro hb <;> try simp only [hb]) | (with_reducible refine Run.gG ?_ ?_ <;> intro hb <;> try simp only [hb]) | (with_reducible refine Run.gQ ?_ ?_ <;> intro hb <;> try simp only [hb])))
      · have e : lateOf p = 0 := if_pos (by simpa using hb)
        rw [e] at next
        refine (step 0).mono fun _ H2 hT2 => ?_
        (repeat' (first | (simp only [wp, extractV, exists_eq_left', if_true, if_false, ite_true, ite_false, reduceIte, Nat.reduceAdd, Nat.reduceLT, Nat.reduceLeDiff, Nat.reduceEqDiff, addN hlt (show L.length ≤ big by unfold big; omega)]) | (with_reducible refine Run.gC ?_ ?_ <;> intro hb <;> try simp only [hb]) | (with_reducible refine Run.gG ?_ ?_ <;> intro hb <;> try simp only [hb]) | (with_reducible refine Run.gQ ?_ ?_ <;> intro hb <;> try simp only [hb])))
        exact ⟨hlt, by rw [next]; exact hT2⟩
      · have e : lateOf p = 4294967294 := if_neg (by simpa using hb)
        rw [e] at next
        refine (step 4294967294).mono fun _ H2 hT2 => ?_
        (repeat' (first | (simp only [wp, extractV, exists_eq_left', if_true, if_false, ite_true, ite_false, reduceIte, Nat.reduceAdd, Nat.reduceLT, Nat.reduceLeDiff, Nat.reduceEqDiff, addN hlt (show L.length ≤ big by unfold big; omega)]) | (with_reducible refine Run.gC ?_ ?_ <;> intro hb <;> try simp only [hb]) | (with_reducible refine Run.gG ?_ ?_ <;> intro hb <;> try simp only [hb]) | (with_reducible refine Run.gQ ?_ ?_ <;> intro hb <;> try simp only [hb])))
        exact ⟨hlt, by rw [next]; exact hT2⟩
    · simp only [ferry_ready_Fire_l1]
      rw [take_all (by omega)] at hT
      obtain ⟨x', y', z', hb, ho, hk⟩ := hT.tab
      have hok' := wl.ok hok lateOf L.length
      rw [take_all (Nat.le_refl _)] at hok'
      (repeat' (first | (simp only [wp, extractV, exists_eq_left', if_true, if_false, ite_true, ite_false, reduceIte, Nat.reduceAdd, Nat.reduceLT, Nat.reduceLeDiff, Nat.reduceEqDiff, ltF hlt, hb, hT.fl, hT.b1, tupV]) | (with_reducible refine Run.gC ?_ ?_ <;> intro hb <;> try simp only [hb]) | (with_reducible refine Run.gG ?_ ?_ <;> intro hb <;> try simp only [hb]) | (with_reducible refine Run.gQ ?_ ?_ <;> intro hb <;> try simp only [hb])))
      have fB : Frame H (H.set 1 ⟨3, [[x', y', z']]⟩) (fun k => k = 1) := Frame.set _ _ rfl
      obtain ⟨a', b', c', q1, q2⟩ := thaw2_tab (ho.frame fB fun k hk1 e => by have := (hk k hk1).1; omega) hT.wp hok' true
      exact ⟨_, thawV_tup (mapM3 q1 (sls_thaw2 sw _) (thaw2_nili _ _)), .inl ⟨hok, a', b', c', ds, rfl, q2, sw⟩⟩
  · (repeat' (first | (simp only [wp, extractV, exists_eq_left', if_true, if_false, ite_true, ite_false, reduceIte, Nat.reduceAdd, Nat.reduceLT, Nat.reduceLeDiff, Nat.reduceEqDiff, ready_good_spec hE _ h, decide_eq_false hok, buildV, fill, glob_at hE.state, tupV]) | (with_reducible refine Run.gC ?_ ?_ <;> intro hb <;> try simp only [hb]) | (with_reducible refine Run.gG ?_ ?_ <;> intro hb <;> try simp only [hb]) | (with_reducible refine Run.gQ ?_ ?_ <;> intro hb <;> try simp only [hb])))
    exact ⟨rfl, _, thawV_tup (mapM3 (thaw2_none _ _) (thaw2_nils _ _) (thaw2_err _ _ _)), .inr ⟨hok, rfl⟩⟩
end Go.Fv.Tr
