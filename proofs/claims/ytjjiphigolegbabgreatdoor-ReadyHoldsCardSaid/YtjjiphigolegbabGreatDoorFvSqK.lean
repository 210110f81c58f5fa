/-
  What the document's functions of the layer 9 answer: Yield, Wake, Halt, Start, Rank. By an AI agent; no person has read it.
-/
import Derived.Test.YtjjiphigolegbabGreatDoorFvSqJ
set_option linter.unusedVariables false
set_option linter.unusedSimpArgs false
set_option linter.unusedSectionVars false
/-! What the document's functions of the layer 9 answer: Yield, Wake, Halt, Start, Rank. -/
namespace Go.Fv.Tr
open Go Go.Fv Go.Fv.Pl Go.Proofs
set_option linter.unusedSimpArgs false
set_option linter.unusedVariables false
variable {G : Nat → Option (List V)}

theorem isIn_spec (n : Nat) {x y z : V} {t : Tab} (h : IsTab x y z t) (p s : Int) :
    callV (cfg G) (sem (cfg G) (n + 1)) 29 [.agg [x, y, z], .int .i64 p, .int .i64 s] = M.ret (.bool (decide ((at? t.ps p).map Pr.state = some s))) := by
  refine callV_pure0 rfl (by simp [h.closed, cI]) rfl ?_
  rw [ferry_ferryref09_isIn_eq]
  simp only [ferry_ferryref09_isIn]
  by_cases h0 : p < 0
  · have e : at? t.ps p = none := by unfold at?; rw [if_neg (by omega)]
    (repeat' (first | (simp only [wp, extractV, exists_eq_left', if_true, if_false, ite_true, ite_false, reduceIte, Nat.reduceAdd, Nat.reduceLT, Nat.reduceLeDiff, Nat.reduceEqDiff, decide_eq_false (show ¬ 0 ≤ p by omega), e, Option.map_none, decide_eq_false (show ¬ ((none : Option Int) = some s) by simp)]) | (with_reducible refine Run.gC ?_ ?_ <;> intro hb <;> try simp only [hb]) | (with_reducible refine Run.gG ?_ ?_ <;> intro hb <;> try simp only [hb]) | (with_reducible refine Run.gQ ?_ ?_ <;> intro hb <;> try simp only [hb])))
  · by_cases h1 : p < t.ps.length
    · have hp : at? t.ps p = some (t.ps[p.toNat]'(by omega)) := at?_some.2 ⟨by omega, List.getElem?_eq_getElem _⟩
      obtain ⟨i1, w1⟩ := h.at hp
      (repeat' (first | (simp only [wp, extractV, exists_eq_left', if_true, if_false, ite_true, ite_false, reduceIte, Nat.reduceAdd, Nat.reduceLT, Nat.reduceLeDiff, Nat.reduceEqDiff, decide_eq_true (show 0 ≤ p by omega), h.p.len, List.length_map, decide_eq_true h1, i1, pr_state w1, hp, Option.map_some]) | (with_reducible refine Run.gC ?_ ?_ <;> intro hb <;> try simp only [hb]) | (with_reducible refine Run.gG ?_ ?_ <;> intro hb <;> try simp only [hb]) | (with_reducible refine Run.gQ ?_ ?_ <;> intro hb <;> try simp only [hb])))
      rfl
    · have e : at? t.ps p = none := by
        unfold at?
        rw [if_pos (by omega), List.getElem?_eq_none (by omega)]
      (repeat' (first | (simp only [wp, extractV, exists_eq_left', if_true, if_false, ite_true, ite_false, reduceIte, Nat.reduceAdd, Nat.reduceLT, Nat.reduceLeDiff, Nat.reduceEqDiff, decide_eq_true (show 0 ≤ p by omega), h.p.len, List.length_map, decide_eq_false h1, e, Option.map_none, decide_eq_false (show ¬ ((none : Option Int) = some s) by simp)]) | (with_reducible refine Run.gC ?_ ?_ <;> intro hb <;> try simp only [hb]) | (with_reducible refine Run.gG ?_ ?_ <;> intro hb <;> try simp only [hb]) | (with_reducible refine Run.gQ ?_ ?_ <;> intro hb <;> try simp only [hb])))

theorem out_spec (n : Nat) {y : V} {q : List Int} (hy : Sls y 1 (q.map intRow)) (hq : q.length ≤ 8) (p : Int) {H : Heap} (hH : H.floor ≤ H.next) :
    Run (callV (cfg G) (sem (cfg G) (n + 1)) 31 [y, .int .i64 p]) H (New H 1 ((q.filter (· ≠ p)).map intRow)) := by
  refine callV_own rfl (mapM_closedV (by simp [hy.closedV, cI]) H) ?_
  rw [ferry_ferryref09_out_eq]
  simp only [ferry_ferryref09_out]
  (repeat' (first | (simp only [wp, extractV, exists_eq_left', if_true, if_false, ite_true, ite_false, reduceIte, Nat.reduceAdd, Nat.reduceLT, Nat.reduceLeDiff, Nat.reduceEqDiff]) | (with_reducible refine Run.gC ?_ ?_ <;> intro hb <;> try simp only [hb]) | (with_reducible refine Run.gG ?_ ?_ <;> intro hb <;> try simp only [hb]) | (with_reducible refine Run.gQ ?_ ?_ <;> intro hb <;> try simp only [hb])))
  refine Run.loop (N := q.length) (fun i s H => ∃ a, s = [a, .int .i64 (i : Nat)] ∧ H.floor = 0 ∧ Own H a 1 (((q.take i).filter (· ≠ p)).map intRow)) ⟨_, rfl, rfl, Own.nils _ _⟩ ?_
  rintro i s H' hi ⟨a, rfl, hf, ha⟩
  by_cases hlt : i < q.length
  · have h2 := hy.idx (k := .i64) (i := i) (by simpa using hlt)
    simp only [List.getElem_map] at h2
    have ht := take_snoc hlt
    simp only [ferry_ferryref09_out_l1, ferry_ferryref09_out_j1]
    by_cases e : q[i] = p
    · have e1 : (q[i] == p) = true := by simpa using e
      (repeat' (first | (simp only [wp, extractV, exists_eq_left', if_true, if_false, ite_true, ite_false, reduceIte, Nat.reduceAdd, Nat.reduceLT, Nat.reduceLeDiff, Nat.reduceEqDiff, hy.len, List.length_map, ltT hlt, h2, ir_at, e1, addN hlt (show q.length ≤ big by unfold big; omega)]) | (with_reducible refine Run.gC ?_ ?_ <;> intro hb <;> try simp only [hb]) | (with_reducible refine Run.gG ?_ ?_ <;> intro hb <;> try simp only [hb]) | (with_reducible refine Run.gQ ?_ ?_ <;> intro hb <;> try simp only [hb])))
      refine ⟨hlt, _, rfl, hf, ?_⟩
      rw [ht, List.filter_append, List.filter_cons_of_neg (by simp [e]), List.filter_nil, List.append_nil]
      exact ha
    · have e1 : (q[i] == p) = false := by simpa using e
      have hlen := List.length_filter_le (fun x => decide (x ≠ p)) (q.take i)
      rw [List.length_take] at hlen
      (repeat' (first | (simp only [wp, extractV, exists_eq_left', if_true, if_false, ite_true, ite_false, reduceIte, Nat.reduceAdd, Nat.reduceLT, Nat.reduceLeDiff, Nat.reduceEqDiff, hy.len, List.length_map, ltT hlt, h2, ir_at, e1]) | (with_reducible refine Run.gC ?_ ?_ <;> intro hb <;> try simp only [hb]) | (with_reducible refine Run.gG ?_ ?_ <;> intro hb <;> try simp only [hb]) | (with_reducible refine Run.gQ ?_ ?_ <;> intro hb <;> try simp only [hb])))
      refine (Run.slice (n := 0)).2 ⟨[intRow q[i]], rfl, ?_⟩
      have fa : Frame H' (H'.add ⟨1, [intRow q[i]]⟩) (fun _ => False) := Frame.add _ _
      refine (Run.app (items := [intRow q[i]]) (bytes := 8) (by show H'.floor ≤ H'.next + 1; rw [hf]; exact Nat.zero_le _) (ha.frame fa fun _ _ g => g) (by simp [itemsV, Heap.add_blk]) (by simp only [List.length_map, List.length_singleton]; unfold room; omega)).mono fun x' H3 ⟨o3, f3, l3⟩ => ?_
      (repeat' (first | (simp only [wp, extractV, exists_eq_left', if_true, if_false, ite_true, ite_false, reduceIte, Nat.reduceAdd, Nat.reduceLT, Nat.reduceLeDiff, Nat.reduceEqDiff, addN hlt (show q.length ≤ big by unfold big; omega)]) | (with_reducible refine Run.gC ?_ ?_ <;> intro hb <;> try simp only [hb]) | (with_reducible refine Run.gG ?_ ?_ <;> intro hb <;> try simp only [hb]) | (with_reducible refine Run.gQ ?_ ?_ <;> intro hb <;> try simp only [hb])))
      refine ⟨hlt, _, rfl, f3.floor.trans hf, ?_⟩
      rw [ht, List.filter_append, List.filter_cons_of_pos (by simp [e]), List.filter_nil, List.map_append]
      exact o3
  · simp only [ferry_ferryref09_out_l1]
    (repeat' (first | (simp only [wp, extractV, exists_eq_left', if_true, if_false, ite_true, ite_false, reduceIte, Nat.reduceAdd, Nat.reduceLT, Nat.reduceLeDiff, Nat.reduceEqDiff, hy.len, List.length_map, ltF hlt]) | (with_reducible refine Run.gC ?_ ?_ <;> intro hb <;> try simp only [hb]) | (with_reducible refine Run.gG ?_ ?_ <;> intro hb <;> try simp only [hb]) | (with_reducible refine Run.gQ ?_ ?_ <;> intro hb <;> try simp only [hb])))
    rw [take_all (by omega)] at ha
    exact ha.hand (flat_ir _) hH

variable {K H H3 : Heap} {lt : Nat} {u : Tab}
theorem InB.setQ (h : InB K H lt u) {y' : V} {q' : List Int} (f : Frame H H3 (fun _ => False)) (o : Own H3 y' 1 (q'.map intRow)) (hl : ∀ l, loc y' = some l → H.next ≤ l) :
    ∃ x y z, H.blk lt = some ⟨3, [[x, y, z]]⟩ ∧ H3.blk lt = some ⟨3, [[x, y, z]]⟩ ∧ InB K (H3.set lt ⟨3, [[x, y', z]]⟩) lt { u with q := q' } := by
  have h3 := h.frame f fun _ _ g => g.elim
  obtain ⟨x, y, z, hb, ho, hk⟩ := h.tab
  have hln := h.ln
  have hl2 := h.l2
  have hb3 : H3.blk lt = some ⟨3, [[x, y, z]]⟩ := (f.old lt hln id).trans hb
  refine ⟨x, y, z, hb, hb3, h3.put ⟨ho.p.frame f fun _ _ g => g, o, ho.s.frame f fun _ _ g => g, fun l h1 h2 => ?_, ho.ps, fun l h1 h2 => ?_⟩ (fun k g => ?_) h.wp⟩
  · have := ho.lt (.inl h1); have := hl l h2; omega
  · have := ho.lt (.inr (.inr h2)); have := hl l h1; omega
  · rcases g with g | g | g
    · exact hk k (.inl g)
    · have := hl k g; omega
    · exact hk k (.inr (.inr g))
theorem app1_fresh {y' : V} {q : List Int} (m : Int) (f : Frame H H3 (fun _ => False)) (o : Own H3 y' 1 (q.map intRow)) (hl : ∀ l, loc y' = some l → H.next ≤ l) (hq : q.length ≤ 8) (hH : H.floor ≤ H.next) :
    Run (Fv.appV 1 8 y' (.ref H3.next 1 0 1 1 true)) (H3.add ⟨1, [intRow m]⟩) fun y'' H4 => Own H4 y'' 1 ((q ++ [m]).map intRow) ∧ Frame H H4 (fun _ => False) ∧ ∀ l, loc y'' = some l → H.next ≤ l := by
  have fa : Frame H3 (H3.add ⟨1, [intRow m]⟩) (fun _ => False) := Frame.add _ _
  have hn := f.next
  refine (Run.app (items := [intRow m]) (bytes := 8) (by show H3.floor ≤ H3.next + 1; rw [f.floor]; omega) (o.frame fa fun _ _ g => g) (by simp [itemsV, Heap.add_blk]) (by simp only [List.length_map, List.length_singleton]; unfold room; omega)).mono fun y'' H4 ⟨o4, f4, l4⟩ => ?_
  refine ⟨by rw [List.map_append]; exact o4, (f.trans fa (r := fun _ => False) (fun _ _ g => g) (fun _ _ g => g)).trans f4 (fun _ _ g => g) (fun l hl' g => ?_), fun l g => ?_⟩
  · have := hl l g; omega
  · rcases l4 l g with g | g
    · exact hl l g
    · have : H3.next + 1 ≤ l := g
      omega

def RAns (t : Tab) (ok : Prop) (u : Tab) (r : V) : Prop :=
  (TabOk t ∧ ok ∧ ∃ a b c, r = .tuple [.agg [a, b, c], i64 0] ∧ IsTab a b c u) ∨ (¬ TabOk t ∧ r = .tuple [.agg [.nils, .nils, .nils], i64 9]) ∨ (TabOk t ∧ ¬ ok ∧ r = .tuple [.agg [.nils, .nils, .nils], i64 12])
theorem inOk_iff {t : Tab} {p s : Int} : inOk t p [s] ↔ (at? t.ps p).map Pr.state = some s := by
  unfold inOk
  rw [Option.map_eq_some_iff]
  simp

set_option maxRecDepth 20000 in
theorem ryield_spec (n : Nat) {x y z : V} {t : Tab} (h : IsTab x y z t) (p : Int) :
    ∃ r, callV (cfg G) (sem (cfg G) (n + 4)) 6 [.agg [x, y, z], .int .i64 p] = M.ret r ∧ RAns t (inOk t p [1]) (t.yield p) r := by
  refine callV_pureE rfl (by simp [h.closed, cI]) ?_
  rw [ferry_ferryref09_Yield_eq]
  simp only [ferry_ferryref09_Yield]
  by_cases hok : TabOk t
  case neg =>
    (repeat' (first | (simp only [wp, extractV, exists_eq_left', if_true, if_false, ite_true, ite_false, reduceIte, Nat.reduceAdd, Nat.reduceLT, Nat.reduceLeDiff, Nat.reduceEqDiff, ref_good_spec _ h, decide_eq_false hok, buildV, fill, tupV]) | (with_reducible refine Run.gC ?_ ?_ <;> intro hb <;> try simp only [hb]) | (with_reducible refine Run.gG ?_ ?_ <;> intro hb <;> try simp only [hb]) | (with_reducible refine Run.gQ ?_ ?_ <;> intro hb <;> try simp only [hb])))
    exact ⟨_, thawV_tup (mapM2 (thaw2_none _ _) (thaw2_int _ _ _ _)), .inr (.inl ⟨hok, rfl⟩)⟩
  have few := ((ROk_iff t).2 hok).few
  have sm := small_of hok
  have bad : ∀ {K' : Heap}, ¬ (inOk t p [1]) → ∃ r, thawV true K' (.tuple [.agg [.nils, .nils, .nils], i64 12]) = some r ∧ RAns t (inOk t p [1]) (t.yield p) r := fun {K'} hno =>
    ⟨_, thawV_tup (mapM2 (thaw2_none _ _) (thaw2_int _ _ _ _)), .inr (.inr ⟨hok, hno, rfl⟩)⟩
  by_cases hin : (at? t.ps p).map Pr.state = some 1
  · (repeat' (first | (simp only [wp, extractV, exists_eq_left', if_true, if_false, ite_true, ite_false, reduceIte, Nat.reduceAdd, Nat.reduceLT, Nat.reduceLeDiff, Nat.reduceEqDiff, ref_good_spec _ h, decide_eq_true hok, isIn_spec _ h, decide_eq_true hin]) | (with_reducible refine Run.gC ?_ ?_ <;> intro hb <;> try simp only [hb]) | (with_reducible refine Run.gG ?_ ?_ <;> intro hb <;> try simp only [hb]) | (with_reducible refine Run.gQ ?_ ?_ <;> intro hb <;> try simp only [hb])))
    refine (rcopied_spec _ h sm (by exact Nat.zero_le _)).mono fun v H1 ⟨a, b, c, ev, o1, f, ll⟩ => ?_
    subst ev
    have i1 := InB.start o1 f (by exact Nat.zero_le _) ll h.wp
    have n1 : 2 ≤ H1.next := f.next
    have e1 : H1.floor = 0 := f.floor
    have z0 : ¬ 0 = H1.next := by omega
    have z1 : ¬ 1 = H1.next := by omega
    have c0 : H1.blk 0 = some ⟨3, [[x, y, z]]⟩ := (f.old 0 (by exact Nat.zero_lt_succ _) id).trans rfl
    have b1 : H1.blk 1 = some ⟨3, [[.nils, .nils, .nils]]⟩ := (f.old 1 (by exact Nat.lt_succ_self 1) id).trans rfl
    (repeat' (first | (simp only [wp, extractV, exists_eq_left', if_true, if_false, ite_true, ite_false, reduceIte, Nat.reduceAdd, Nat.reduceLT, Nat.reduceLeDiff, Nat.reduceEqDiff, e1, c0, z0]) | (with_reducible refine Run.gC ?_ ?_ <;> intro hb <;> try simp only [hb]) | (with_reducible refine Run.gG ?_ ?_ <;> intro hb <;> try simp only [hb]) | (with_reducible refine Run.gQ ?_ ?_ <;> intro hb <;> try simp only [hb])))
    refine (out_spec _ h.q few.2.1 p (by simp only [Heap.set_floor, Heap.set_next, Heap.add_floor, Heap.add_next]; omega)).mono fun y' H3 ⟨oy, fy, ly⟩ => ?_
    refine (Run.slice (n := 0)).2 ⟨[intRow p], rfl, ?_⟩
    refine (app1_fresh p fy oy ly (Nat.le_trans (List.length_filter_le _ _) few.2.1) i1.lown).mono fun y'' H4 ⟨o4, f4, l4⟩ => ?_
    obtain ⟨x3, y3, z3', q1, q2, i2⟩ := i1.setQ f4 o4 l4
    have e4 : H4.floor = 0 := f4.floor.trans e1
    have d1 : H4.blk 1 = some ⟨3, [[.nils, .nils, .nils]]⟩ := (f4.old 1 (by show 1 < H1.next + 1; omega) id).trans (by rw [Heap.set_blk, if_neg z1, Heap.add_blk, if_neg z1]; exact b1)
    (repeat' (first | (simp only [wp, extractV, exists_eq_left', if_true, if_false, ite_true, ite_false, reduceIte, Nat.reduceAdd, Nat.reduceLT, Nat.reduceLeDiff, Nat.reduceEqDiff, q2, e4, o4.cells, d1, z1, tupV]) | (with_reducible refine Run.gC ?_ ?_ <;> intro hb <;> try simp only [hb]) | (with_reducible refine Run.gG ?_ ?_ <;> intro hb <;> try simp only [hb]) | (with_reducible refine Run.gQ ?_ ?_ <;> intro hb <;> try simp only [hb])))
    have hr : isReady t.ps p := hin
    obtain ⟨x9, y9, z9, q19, o9, k9⟩ := (i2).tab
    rw [Heap.set_blk, if_pos rfl] at q19
    cases q19
    obtain ⟨a', b', c', s1, s2⟩ := o9.show1 (K' := ((H4.set H1.next ⟨3, [[x3, y'', z3']]⟩).set 1 ⟨3, [[x3, y'', z3']]⟩)) (i2).wp (hok.yield hr) (fun k' b' hk' hb' => by
      have : 2 ≤ k' ∧ k' ≠ H1.next := k9 k' hk'
      rw [Heap.set_blk, if_neg (by omega)]
      exact hb') true
    exact ⟨_, thawV_tup (mapM2 s1 (thaw2_int _ _ _ _)), .inl ⟨hok, inOk_iff.2 hin, _, _, _, rfl, s2⟩⟩
  · (repeat' (first | (simp only [wp, extractV, exists_eq_left', if_true, if_false, ite_true, ite_false, reduceIte, Nat.reduceAdd, Nat.reduceLT, Nat.reduceLeDiff, Nat.reduceEqDiff, ref_good_spec _ h, decide_eq_true hok, isIn_spec _ h, decide_eq_false hin, buildV, fill, tupV]) | (with_reducible refine Run.gC ?_ ?_ <;> intro hb <;> try simp only [hb]) | (with_reducible refine Run.gG ?_ ?_ <;> intro hb <;> try simp only [hb]) | (with_reducible refine Run.gQ ?_ ?_ <;> intro hb <;> try simp only [hb])))
    exact bad fun g => hin (inOk_iff.1 g)

set_option maxRecDepth 20000 in
theorem rwake_spec (n : Nat) {x y z : V} {t : Tab} (h : IsTab x y z t) (p r1 : Int) :
    ∃ r, callV (cfg G) (sem (cfg G) (n + 4)) 8 [.agg [x, y, z], .int .i64 p, .int .u32 r1] = M.ret r ∧ RAns t (inOk t p [2]) (t.wake p r1) r := by
  refine callV_pureE rfl (by simp [h.closed, cI]) ?_
  rw [ferry_ferryref09_Wake_eq]
  simp only [ferry_ferryref09_Wake]
  by_cases hok : TabOk t
  case neg =>
    (repeat' (first | (simp only [wp, extractV, exists_eq_left', if_true, if_false, ite_true, ite_false, reduceIte, Nat.reduceAdd, Nat.reduceLT, Nat.reduceLeDiff, Nat.reduceEqDiff, ref_good_spec _ h, decide_eq_false hok, buildV, fill, tupV]) | (with_reducible refine Run.gC ?_ ?_ <;> intro hb <;> try simp only [hb]) | (with_reducible refine Run.gG ?_ ?_ <;> intro hb <;> try simp only [hb]) | (with_reducible refine Run.gQ ?_ ?_ <;> intro hb <;> try simp only [hb])))
    exact ⟨_, thawV_tup (mapM2 (thaw2_none _ _) (thaw2_int _ _ _ _)), .inr (.inl ⟨hok, rfl⟩)⟩
  have few := ((ROk_iff t).2 hok).few
  have sm := small_of hok
  have bad : ∀ {K' : Heap}, ¬ (inOk t p [2]) → ∃ r, thawV true K' (.tuple [.agg [.nils, .nils, .nils], i64 12]) = some r ∧ RAns t (inOk t p [2]) (t.wake p r1) r := fun {K'} hno =>
    ⟨_, thawV_tup (mapM2 (thaw2_none _ _) (thaw2_int _ _ _ _)), .inr (.inr ⟨hok, hno, rfl⟩)⟩
  by_cases hin : (at? t.ps p).map Pr.state = some 2
  · obtain ⟨q, hq, hs⟩ := Option.map_eq_some_iff.1 hin
    obtain ⟨r, er, a, b, c, rfl, ht⟩ := (woken_spec (G := G) (n + 1) h hok hq hs r1).eq rfl (by simp [h.closed, cI])
    (repeat' (first | (simp only [wp, extractV, exists_eq_left', if_true, if_false, ite_true, ite_false, reduceIte, Nat.reduceAdd, Nat.reduceLT, Nat.reduceLeDiff, Nat.reduceEqDiff, ref_good_spec _ h, decide_eq_true hok, isIn_spec _ h, decide_eq_true hin, er, tupV]) | (with_reducible refine Run.gC ?_ ?_ <;> intro hb <;> try simp only [hb]) | (with_reducible refine Run.gG ?_ ?_ <;> intro hb <;> try simp only [hb]) | (with_reducible refine Run.gQ ?_ ?_ <;> intro hb <;> try simp only [hb])))
    exact ⟨_, thawV_closedT (by simp [V.closedT, ht.closed, cI]) _, .inl ⟨hok, inOk_iff.2 hin, a, b, c, rfl, ht⟩⟩
  · (repeat' (first | (simp only [wp, extractV, exists_eq_left', if_true, if_false, ite_true, ite_false, reduceIte, Nat.reduceAdd, Nat.reduceLT, Nat.reduceLeDiff, Nat.reduceEqDiff, ref_good_spec _ h, decide_eq_true hok, isIn_spec _ h, decide_eq_false hin, buildV, fill, tupV]) | (with_reducible refine Run.gC ?_ ?_ <;> intro hb <;> try simp only [hb]) | (with_reducible refine Run.gG ?_ ?_ <;> intro hb <;> try simp only [hb]) | (with_reducible refine Run.gQ ?_ ?_ <;> intro hb <;> try simp only [hb])))
    exact bad fun g => hin (inOk_iff.1 g)

set_option maxRecDepth 20000 in
theorem rhalt_spec (n : Nat) {x y z : V} {t : Tab} (h : IsTab x y z t) (p s : Int) :
    ∃ r, callV (cfg G) (sem (cfg G) (n + 4)) 9 [.agg [x, y, z], .int .i64 p, .int .i64 s] = M.ret r ∧ RAns t (inOk t p [1] ∧ (s = 0 ∨ s = 3)) (Tab.halt t p s) r := by
  refine callV_pureE rfl (by simp [h.closed, cI]) ?_
  rw [ferry_ferryref09_Halt_eq]
  simp only [ferry_ferryref09_Halt]
  by_cases hok : TabOk t
  case neg =>
    (repeat' (first | (simp only [wp, extractV, exists_eq_left', if_true, if_false, ite_true, ite_false, reduceIte, Nat.reduceAdd, Nat.reduceLT, Nat.reduceLeDiff, Nat.reduceEqDiff, ref_good_spec _ h, decide_eq_false hok, buildV, fill, tupV]) | (with_reducible refine Run.gC ?_ ?_ <;> intro hb <;> try simp only [hb]) | (with_reducible refine Run.gG ?_ ?_ <;> intro hb <;> try simp only [hb]) | (with_reducible refine Run.gQ ?_ ?_ <;> intro hb <;> try simp only [hb])))
    exact ⟨_, thawV_tup (mapM2 (thaw2_none _ _) (thaw2_int _ _ _ _)), .inr (.inl ⟨hok, rfl⟩)⟩
  have few := ((ROk_iff t).2 hok).few
  have sm := small_of hok
  have bad : ∀ {K' : Heap}, ¬ (inOk t p [1] ∧ (s = 0 ∨ s = 3)) → ∃ r, thawV true K' (.tuple [.agg [.nils, .nils, .nils], i64 12]) = some r ∧ RAns t (inOk t p [1] ∧ (s = 0 ∨ s = 3)) (Tab.halt t p s) r := fun {K'} hno =>
    ⟨_, thawV_tup (mapM2 (thaw2_none _ _) (thaw2_int _ _ _ _)), .inr (.inr ⟨hok, hno, rfl⟩)⟩
  by_cases hin : (at? t.ps p).map Pr.state = some 1
  · by_cases hnb : s = 0 ∨ s = 3
    · obtain ⟨q, hq, hs⟩ := Option.map_eq_some_iff.1 hin
      have hlt0 := at?_lt hq
      obtain ⟨k, rfl⟩ := Int.eq_ofNat_of_zero_le hlt0.1
      have hk : k < t.ps.length := by omega
      obtain ⟨a0, a1, a2, a3, a4, a5, a6, a7, a8, a9, a10, a11, a12, a13, a14, a15, hr, hrow⟩ := row16 (h.wp _ (List.getElem_mem hk))
      have hwk : Wp t.ps[k] := h.wp t.ps[k] (List.getElem_mem hk)
      have hrow' : prRow (haltP s t.ps[k]) = [.int .u32 a0, .int .u32 a1, .int .u32 a2, .int .u32 a3, .int .u32 a4, .int .u32 a5, .int .u32 a6, .int .u32 a7, .int .u32 a8, .int .u32 a9, .int .u32 a10, .int .u32 a11, .int .u32 a12, .int .u32 a13, .int .u32 a14, .int .u32 a15,
        .int .u32 t.ps[k].pc, .int .i64 s, .int .i64 t.ps[k].prio, .int .i64 t.ps[k].wait, .int .i64 t.ps[k].obj] := by unfold prRow haltP; rw [hr]; rfl
      have cs : (s == 0) = true ∨ (s == 0) = false ∧ (s == 3) = true := by
        rcases hnb with rfl | rfl
        · exact .inl rfl
        · exact .inr ⟨rfl, rfl⟩
      rcases cs with s1 | ⟨s1, s2⟩
      · (repeat' (first | (simp only [wp, extractV, exists_eq_left', if_true, if_false, ite_true, ite_false, reduceIte, Nat.reduceAdd, Nat.reduceLT, Nat.reduceLeDiff, Nat.reduceEqDiff, ref_good_spec _ h, decide_eq_true hok, isIn_spec _ h, decide_eq_true hin, s1]) | (with_reducible refine Run.gC ?_ ?_ <;> intro hb <;> try simp only [hb]) | (with_reducible refine Run.gG ?_ ?_ <;> intro hb <;> try simp only [hb]) | (with_reducible refine Run.gQ ?_ ?_ <;> intro hb <;> try simp only [hb])))
        refine (rcopied_spec _ h sm (by exact Nat.zero_le _)).mono fun v H1 ⟨a, b, c, ev, o1, f, ll⟩ => ?_
        subst ev
        have i1 := InB.start o1 f (by exact Nat.zero_le _) ll h.wp
        have n1 : 2 ≤ H1.next := f.next
        have e1 : H1.floor = 0 := f.floor
        have z0 : ¬ 0 = H1.next := by omega
        have z1 : ¬ 1 = H1.next := by omega
        have c0 : H1.blk 0 = some ⟨3, [[x, y, z]]⟩ := (f.old 0 (by exact Nat.zero_lt_succ _) id).trans rfl
        have b1 : H1.blk 1 = some ⟨3, [[.nils, .nils, .nils]]⟩ := (f.old 1 (by exact Nat.lt_succ_self 1) id).trans rfl
        (repeat' (first | (simp only [wp, extractV, exists_eq_left', if_true, if_false, ite_true, ite_false, reduceIte, Nat.reduceAdd, Nat.reduceLT, Nat.reduceLeDiff, Nat.reduceEqDiff, e1, c0, z0]) | (with_reducible refine Run.gC ?_ ?_ <;> intro hb <;> try simp only [hb]) | (with_reducible refine Run.gG ?_ ?_ <;> intro hb <;> try simp only [hb]) | (with_reducible refine Run.gQ ?_ ?_ <;> intro hb <;> try simp only [hb])))
        refine (out_spec _ h.q few.2.1 k (by simp only [Heap.set_floor, Heap.set_next, Heap.add_floor, Heap.add_next]; omega)).mono fun y' H3 ⟨oy, fy, ly⟩ => ?_
        obtain ⟨x3, y3, z3', q1, q2, i2⟩ := i1.setQ fy oy ly
        have e3 : H3.floor = 0 := fy.floor.trans e1
        have d1 : H3.blk 1 = some ⟨3, [[.nils, .nils, .nils]]⟩ := (fy.old 1 (by show 1 < H1.next + 1; omega) id).trans (by rw [Heap.set_blk, if_neg z1, Heap.add_blk, if_neg z1]; exact b1)
        obtain ⟨xx, yy, zz, lx, B, p1, p2, p3, p4, p5, p6, p7, p8, p9, put⟩ := i2.proc (p := k) hk
        rw [Heap.set_blk, if_pos rfl] at p1
        cases p1
        rw [Heap.set_blk, if_neg p7] at p3
        have p4' : B.rows[k]? = some (prRow t.ps[k]) := p4
        rw [hrow] at p4'
        have hgs : ∀ r, (B.rows.set k r)[k]? = some r := fun r => List.getElem?_set_self p5
        have z2 : ¬ H1.next = lx := fun e => p7 e.symm
        have z3 : ¬ 1 = lx := by have : 2 ≤ lx := p8; omega
        have i3 := put (haltP s) (show Wp (haltP s t.ps[k]) from hwk)
        (repeat' (first | (simp only [wp, extractV, exists_eq_left', if_true, if_false, ite_true, ite_false, reduceIte, Nat.reduceAdd, Nat.reduceLT, Nat.reduceLeDiff, Nat.reduceEqDiff, q2, e3, oy.cells, p2, p3, p4', hgs, p7, z2, z3, d1, z1, tupV]) | (with_reducible refine Run.gC ?_ ?_ <;> intro hb <;> try simp only [hb]) | (with_reducible refine Run.gG ?_ ?_ <;> intro hb <;> try simp only [hb]) | (with_reducible refine Run.gQ ?_ ?_ <;> intro hb <;> try simp only [hb])))
        rw [← hrow']
        obtain ⟨x9, y9, z9, q19, o9, k9⟩ := (i3).tab
        rw [Heap.set_blk, if_neg z2, Heap.set_blk, if_pos rfl] at q19
        cases q19
        obtain ⟨a', b', c', s1, s2⟩ := o9.show1 (K' := (((H3.set H1.next ⟨3, [[x3, y', z3']]⟩).set lx ⟨B.sz, B.rows.set k (prRow (haltP s t.ps[k]))⟩).set 1 ⟨3, [[x3, y', z3']]⟩)) (i3).wp (TabOk.halt hok hq hs hnb) (fun k' b' hk' hb' => by
          have : 2 ≤ k' ∧ k' ≠ H1.next := k9 k' hk'
          rw [Heap.set_blk, if_neg (by omega)]
          exact hb') true
        exact ⟨_, thawV_tup (mapM2 s1 (thaw2_int _ _ _ _)), .inl ⟨hok, ⟨inOk_iff.2 hin, hnb⟩, _, _, _, rfl, s2⟩⟩
      · (repeat' (first | (simp only [wp, extractV, exists_eq_left', if_true, if_false, ite_true, ite_false, reduceIte, Nat.reduceAdd, Nat.reduceLT, Nat.reduceLeDiff, Nat.reduceEqDiff, ref_good_spec _ h, decide_eq_true hok, isIn_spec _ h, decide_eq_true hin, s1, s2]) | (with_reducible refine Run.gC ?_ ?_ <;> intro hb <;> try simp only [hb]) | (with_reducible refine Run.gG ?_ ?_ <;> intro hb <;> try simp only [hb]) | (with_reducible refine Run.gQ ?_ ?_ <;> intro hb <;> try simp only [hb])))
        refine (rcopied_spec _ h sm (by exact Nat.zero_le _)).mono fun v H1 ⟨a, b, c, ev, o1, f, ll⟩ => ?_
        subst ev
        have i1 := InB.start o1 f (by exact Nat.zero_le _) ll h.wp
        have n1 : 2 ≤ H1.next := f.next
        have e1 : H1.floor = 0 := f.floor
        have z0 : ¬ 0 = H1.next := by omega
        have z1 : ¬ 1 = H1.next := by omega
        have c0 : H1.blk 0 = some ⟨3, [[x, y, z]]⟩ := (f.old 0 (by exact Nat.zero_lt_succ _) id).trans rfl
        have b1 : H1.blk 1 = some ⟨3, [[.nils, .nils, .nils]]⟩ := (f.old 1 (by exact Nat.lt_succ_self 1) id).trans rfl
        (repeat' (first | (simp only [wp, extractV, exists_eq_left', if_true, if_false, ite_true, ite_false, reduceIte, Nat.reduceAdd, Nat.reduceLT, Nat.reduceLeDiff, Nat.reduceEqDiff, e1, c0, z0]) | (with_reducible refine Run.gC ?_ ?_ <;> intro hb <;> try simp only [hb]) | (with_reducible refine Run.gG ?_ ?_ <;> intro hb <;> try simp only [hb]) | (with_reducible refine Run.gQ ?_ ?_ <;> intro hb <;> try simp only [hb])))
        refine (out_spec _ h.q few.2.1 k (by simp only [Heap.set_floor, Heap.set_next, Heap.add_floor, Heap.add_next]; omega)).mono fun y' H3 ⟨oy, fy, ly⟩ => ?_
        obtain ⟨x3, y3, z3', q1, q2, i2⟩ := i1.setQ fy oy ly
        have e3 : H3.floor = 0 := fy.floor.trans e1
        have d1 : H3.blk 1 = some ⟨3, [[.nils, .nils, .nils]]⟩ := (fy.old 1 (by show 1 < H1.next + 1; omega) id).trans (by rw [Heap.set_blk, if_neg z1, Heap.add_blk, if_neg z1]; exact b1)
        obtain ⟨xx, yy, zz, lx, B, p1, p2, p3, p4, p5, p6, p7, p8, p9, put⟩ := i2.proc (p := k) hk
        rw [Heap.set_blk, if_pos rfl] at p1
        cases p1
        rw [Heap.set_blk, if_neg p7] at p3
        have p4' : B.rows[k]? = some (prRow t.ps[k]) := p4
        rw [hrow] at p4'
        have hgs : ∀ r, (B.rows.set k r)[k]? = some r := fun r => List.getElem?_set_self p5
        have z2 : ¬ H1.next = lx := fun e => p7 e.symm
        have z3 : ¬ 1 = lx := by have : 2 ≤ lx := p8; omega
        have i3 := put (haltP s) (show Wp (haltP s t.ps[k]) from hwk)
        (repeat' (first | (simp only [wp, extractV, exists_eq_left', if_true, if_false, ite_true, ite_false, reduceIte, Nat.reduceAdd, Nat.reduceLT, Nat.reduceLeDiff, Nat.reduceEqDiff, q2, e3, oy.cells, p2, p3, p4', hgs, p7, z2, z3, d1, z1, tupV]) | (with_reducible refine Run.gC ?_ ?_ <;> intro hb <;> try simp only [hb]) | (with_reducible refine Run.gG ?_ ?_ <;> intro hb <;> try simp only [hb]) | (with_reducible refine Run.gQ ?_ ?_ <;> intro hb <;> try simp only [hb])))
        rw [← hrow']
        obtain ⟨x9, y9, z9, q19, o9, k9⟩ := (i3).tab
        rw [Heap.set_blk, if_neg z2, Heap.set_blk, if_pos rfl] at q19
        cases q19
        obtain ⟨a', b', c', s1, s2⟩ := o9.show1 (K' := (((H3.set H1.next ⟨3, [[x3, y', z3']]⟩).set lx ⟨B.sz, B.rows.set k (prRow (haltP s t.ps[k]))⟩).set 1 ⟨3, [[x3, y', z3']]⟩)) (i3).wp (TabOk.halt hok hq hs hnb) (fun k' b' hk' hb' => by
          have : 2 ≤ k' ∧ k' ≠ H1.next := k9 k' hk'
          rw [Heap.set_blk, if_neg (by omega)]
          exact hb') true
        exact ⟨_, thawV_tup (mapM2 s1 (thaw2_int _ _ _ _)), .inl ⟨hok, ⟨inOk_iff.2 hin, hnb⟩, _, _, _, rfl, s2⟩⟩
    · have s1 : (s == 0) = false := by simp; omega
      have s2 : (s == 3) = false := by simp; omega
      (repeat' (first | (simp only [wp, extractV, exists_eq_left', if_true, if_false, ite_true, ite_false, reduceIte, Nat.reduceAdd, Nat.reduceLT, Nat.reduceLeDiff, Nat.reduceEqDiff, ref_good_spec _ h, decide_eq_true hok, isIn_spec _ h, decide_eq_true hin, s1, s2, buildV, fill, tupV]) | (with_reducible refine Run.gC ?_ ?_ <;> intro hb <;> try simp only [hb]) | (with_reducible refine Run.gG ?_ ?_ <;> intro hb <;> try simp only [hb]) | (with_reducible refine Run.gQ ?_ ?_ <;> intro hb <;> try simp only [hb])))
      exact bad fun g => hnb g.2
  · (repeat' (first | (simp only [wp, extractV, exists_eq_left', if_true, if_false, ite_true, ite_false, reduceIte, Nat.reduceAdd, Nat.reduceLT, Nat.reduceLeDiff, Nat.reduceEqDiff, ref_good_spec _ h, decide_eq_true hok, isIn_spec _ h, decide_eq_false hin, buildV, fill, tupV]) | (with_reducible refine Run.gC ?_ ?_ <;> intro hb <;> try simp only [hb]) | (with_reducible refine Run.gG ?_ ?_ <;> intro hb <;> try simp only [hb]) | (with_reducible refine Run.gQ ?_ ?_ <;> intro hb <;> try simp only [hb])))
    exact bad fun g => hin (inOk_iff.1 g.1)

theorem in4 {t : Tab} (hok : TabOk t) {p : Int} : inOk t p [0, 1, 2, 3] ↔ 0 ≤ p ∧ p < t.ps.length := by
  constructor
  · rintro ⟨q, hq, _⟩; exact at?_lt hq
  · intro hp
    have hq : at? t.ps p = some (t.ps[p.toNat]'(by omega)) := at?_some.2 ⟨hp.1, List.getElem?_eq_getElem _⟩
    have := (hok.at hq).1.2.1
    refine ⟨_, hq, ?_⟩
    simp only [List.mem_cons, List.not_mem_nil, or_false]
    omega
set_option maxRecDepth 20000 in
theorem rrank_spec (n : Nat) {x y z : V} {t : Tab} (h : IsTab x y z t) (p pr : Int) :
    ∃ r, callV (cfg G) (sem (cfg G) (n + 4)) 11 [.agg [x, y, z], .int .i64 p, .int .i64 pr] = M.ret r ∧ RAns t (inOk t p [0, 1, 2, 3] ∧ (0 ≤ pr ∧ pr ≤ 255)) (Tab.rank t p pr) r := by
  refine callV_pureE rfl (by simp [h.closed, cI]) ?_
  rw [ferry_ferryref09_Rank_eq]
  simp only [ferry_ferryref09_Rank]
  by_cases hok : TabOk t
  case neg =>
    (repeat' (first | (simp only [wp, extractV, exists_eq_left', if_true, if_false, ite_true, ite_false, reduceIte, Nat.reduceAdd, Nat.reduceLT, Nat.reduceLeDiff, Nat.reduceEqDiff, ref_good_spec _ h, decide_eq_false hok, buildV, fill, tupV]) | (with_reducible refine Run.gC ?_ ?_ <;> intro hb <;> try simp only [hb]) | (with_reducible refine Run.gG ?_ ?_ <;> intro hb <;> try simp only [hb]) | (with_reducible refine Run.gQ ?_ ?_ <;> intro hb <;> try simp only [hb])))
    exact ⟨_, thawV_tup (mapM2 (thaw2_none _ _) (thaw2_int _ _ _ _)), .inr (.inl ⟨hok, rfl⟩)⟩
  have few := ((ROk_iff t).2 hok).few
  have sm := small_of hok
  have bad : ∀ {K' : Heap}, ¬ (inOk t p [0, 1, 2, 3] ∧ (0 ≤ pr ∧ pr ≤ 255)) → ∃ r, thawV true K' (.tuple [.agg [.nils, .nils, .nils], i64 12]) = some r ∧ RAns t (inOk t p [0, 1, 2, 3] ∧ (0 ≤ pr ∧ pr ≤ 255)) (Tab.rank t p pr) r := fun {K'} hno =>
    ⟨_, thawV_tup (mapM2 (thaw2_none _ _) (thaw2_int _ _ _ _)), .inr (.inr ⟨hok, hno, rfl⟩)⟩
  by_cases h0 : p < 0
  · (repeat' (first | (simp only [wp, extractV, exists_eq_left', if_true, if_false, ite_true, ite_false, reduceIte, Nat.reduceAdd, Nat.reduceLT, Nat.reduceLeDiff, Nat.reduceEqDiff, ref_good_spec _ h, decide_eq_true hok, decide_eq_true h0, buildV, fill, tupV]) | (with_reducible refine Run.gC ?_ ?_ <;> intro hb <;> try simp only [hb]) | (with_reducible refine Run.gG ?_ ?_ <;> intro hb <;> try simp only [hb]) | (with_reducible refine Run.gQ ?_ ?_ <;> intro hb <;> try simp only [hb])))
    exact bad fun g => by have := (in4 hok).1 g.1; omega
  by_cases h1 : (t.ps.length : Int) ≤ p
  · (repeat' (first | (simp only [wp, extractV, exists_eq_left', if_true, if_false, ite_true, ite_false, reduceIte, Nat.reduceAdd, Nat.reduceLT, Nat.reduceLeDiff, Nat.reduceEqDiff, ref_good_spec _ h, decide_eq_true hok, decide_eq_false h0, h.p.len, List.length_map, decide_eq_true h1, buildV, fill, tupV]) | (with_reducible refine Run.gC ?_ ?_ <;> intro hb <;> try simp only [hb]) | (with_reducible refine Run.gG ?_ ?_ <;> intro hb <;> try simp only [hb]) | (with_reducible refine Run.gQ ?_ ?_ <;> intro hb <;> try simp only [hb])))
    exact bad fun g => by have := (in4 hok).1 g.1; omega
  by_cases h2 : pr < 0
  · (repeat' (first | (simp only [wp, extractV, exists_eq_left', if_true, if_false, ite_true, ite_false, reduceIte, Nat.reduceAdd, Nat.reduceLT, Nat.reduceLeDiff, Nat.reduceEqDiff, ref_good_spec _ h, decide_eq_true hok, decide_eq_false h0, h.p.len, List.length_map, decide_eq_false h1, decide_eq_true h2, buildV, fill, tupV]) | (with_reducible refine Run.gC ?_ ?_ <;> intro hb <;> try simp only [hb]) | (with_reducible refine Run.gG ?_ ?_ <;> intro hb <;> try simp only [hb]) | (with_reducible refine Run.gQ ?_ ?_ <;> intro hb <;> try simp only [hb])))
    exact bad fun g => by omega
  by_cases h3 : 255 < pr
  · (repeat' (first | (simp only [wp, extractV, exists_eq_left', if_true, if_false, ite_true, ite_false, reduceIte, Nat.reduceAdd, Nat.reduceLT, Nat.reduceLeDiff, Nat.reduceEqDiff, ref_good_spec _ h, decide_eq_true hok, decide_eq_false h0, h.p.len, List.length_map, decide_eq_false h1, decide_eq_false h2, decide_eq_true h3, buildV, fill, tupV]) | (with_reducible refine Run.gC ?_ ?_ <;> intro hb <;> try simp only [hb]) | (with_reducible refine Run.gG ?_ ?_ <;> intro hb <;> try simp only [hb]) | (with_reducible refine Run.gQ ?_ ?_ <;> intro hb <;> try simp only [hb])))
    exact bad fun g => by omega
  have hin := (in4 hok).2 (show 0 ≤ p ∧ p < t.ps.length by omega)
  obtain ⟨q, hq, hs⟩ := hin
  (repeat' (first | (simp only [wp, extractV, exists_eq_left', if_true, if_false, ite_true, ite_false, reduceIte, Nat.reduceAdd, Nat.reduceLT, Nat.reduceLeDiff, Nat.reduceEqDiff, ref_good_spec _ h, decide_eq_true hok, decide_eq_false h0, h.p.len, List.length_map, decide_eq_false h1, decide_eq_false h2, decide_eq_false h3]) | (with_reducible refine Run.gC ?_ ?_ <;> intro hb <;> try simp only [hb]) | (with_reducible refine Run.gG ?_ ?_ <;> intro hb <;> try simp only [hb]) | (with_reducible refine Run.gQ ?_ ?_ <;> intro hb <;> try simp only [hb])))
  have hlt0 := at?_lt hq
  obtain ⟨k, rfl⟩ := Int.eq_ofNat_of_zero_le hlt0.1
  have hk : k < t.ps.length := by omega
  obtain ⟨a0, a1, a2, a3, a4, a5, a6, a7, a8, a9, a10, a11, a12, a13, a14, a15, hr, hrow⟩ := row16 (h.wp _ (List.getElem_mem hk))
  have hwk : Wp t.ps[k] := h.wp t.ps[k] (List.getElem_mem hk)
  have hrow' : prRow (rankP pr t.ps[k]) = [.int .u32 a0, .int .u32 a1, .int .u32 a2, .int .u32 a3, .int .u32 a4, .int .u32 a5, .int .u32 a6, .int .u32 a7, .int .u32 a8, .int .u32 a9, .int .u32 a10, .int .u32 a11, .int .u32 a12, .int .u32 a13, .int .u32 a14, .int .u32 a15,
        .int .u32 t.ps[k].pc, .int .i64 t.ps[k].state, .int .i64 pr, .int .i64 t.ps[k].wait, .int .i64 t.ps[k].obj] := by unfold prRow rankP; rw [hr]; rfl
  refine (rcopied_spec _ h sm (by exact Nat.zero_le _)).mono fun v H1 ⟨a, b, c, ev, o1, f, ll⟩ => ?_
  subst ev
  have i1 := InB.start o1 f (by exact Nat.zero_le _) ll h.wp
  have n1 : 2 ≤ H1.next := f.next
  have e1 : H1.floor = 0 := f.floor
  have z0 : ¬ 0 = H1.next := by omega
  have z1 : ¬ 1 = H1.next := by omega
  have c0 : H1.blk 0 = some ⟨3, [[x, y, z]]⟩ := (f.old 0 (by exact Nat.zero_lt_succ _) id).trans rfl
  have b1 : H1.blk 1 = some ⟨3, [[.nils, .nils, .nils]]⟩ := (f.old 1 (by exact Nat.lt_succ_self 1) id).trans rfl
  obtain ⟨xx, yy, zz, lx, B, p1, p2, p3, p4, p5, p6, p7, p8, p9, put⟩ := i1.proc (p := k) hk
  rw [Heap.set_blk, if_pos rfl] at p1
  cases p1
  rw [Heap.set_blk, if_neg p7, Heap.add_blk, if_neg p7] at p3
  have p4' : B.rows[k]? = some (prRow t.ps[k]) := p4
  rw [hrow] at p4'
  have hgs : ∀ r, (B.rows.set k r)[k]? = some r := fun r => List.getElem?_set_self p5
  have z2 : ¬ H1.next = lx := fun e => p7 e.symm
  have z3 : ¬ 1 = lx := by have : 2 ≤ lx := p8; omega
  have i3 := put (rankP pr) (show Wp (rankP pr t.ps[k]) from hwk)
  (repeat' (first | (simp only [wp, extractV, exists_eq_left', if_true, if_false, ite_true, ite_false, reduceIte, Nat.reduceAdd, Nat.reduceLT, Nat.reduceLeDiff, Nat.reduceEqDiff, e1, p2, p3, p4', hgs, p7, z2, z3, b1, z1, tupV]) | (with_reducible refine Run.gC ?_ ?_ <;> intro hb <;> try simp only [hb]) | (with_reducible refine Run.gG ?_ ?_ <;> intro hb <;> try simp only [hb]) | (with_reducible refine Run.gQ ?_ ?_ <;> intro hb <;> try simp only [hb])))
  rw [← hrow']
  obtain ⟨x9, y9, z9, q19, o9, k9⟩ := (i3).tab
  rw [Heap.set_blk, if_neg z2, Heap.set_blk, if_pos rfl] at q19
  cases q19
  obtain ⟨a', b', c', s1, s2⟩ := o9.show1 (K' := ((((H1.add ⟨3, [[.nils, .nils, .nils]]⟩).set H1.next ⟨3, [[a, b, c]]⟩).set lx ⟨B.sz, B.rows.set k (prRow (rankP pr t.ps[k]))⟩).set 1 ⟨3, [[a, b, c]]⟩)) (i3).wp (TabOk.rank hok hq ⟨by omega, by omega⟩) (fun k' b' hk' hb' => by
    have : 2 ≤ k' ∧ k' ≠ H1.next := k9 k' hk'
    rw [Heap.set_blk, if_neg (by omega)]
    exact hb') true
  exact ⟨_, thawV_tup (mapM2 s1 (thaw2_int _ _ _ _)), .inl ⟨hok, ⟨⟨q, hq, hs⟩, by omega, by omega⟩, _, _, _, rfl, s2⟩⟩

set_option maxRecDepth 20000 in
theorem rstart_spec (n : Nat) {x y z : V} {t : Tab} (h : IsTab x y z t) (p e pr : Int) :
    ∃ r, callV (cfg G) (sem (cfg G) (n + 4)) 10 [.agg [x, y, z], .int .i64 p, .int .u32 e, .int .i64 pr] = M.ret r ∧ RAns t (inOk t p [0, 3] ∧ (0 ≤ pr ∧ pr ≤ 255)) (Tab.start t p e pr) r := by
  refine callV_pureE rfl (by simp [h.closed, cI]) ?_
  rw [ferry_ferryref09_Start_eq]
  simp only [ferry_ferryref09_Start]
  by_cases hok : TabOk t
  case neg =>
    (repeat' (first | (simp only [wp, extractV, exists_eq_left', if_true, if_false, ite_true, ite_false, reduceIte, Nat.reduceAdd, Nat.reduceLT, Nat.reduceLeDiff, Nat.reduceEqDiff, ref_good_spec _ h, decide_eq_false hok, buildV, fill, tupV]) | (with_reducible refine Run.gC ?_ ?_ <;> intro hb <;> try simp only [hb]) | (with_reducible refine Run.gG ?_ ?_ <;> intro hb <;> try simp only [hb]) | (with_reducible refine Run.gQ ?_ ?_ <;> intro hb <;> try simp only [hb])))
    exact ⟨_, thawV_tup (mapM2 (thaw2_none _ _) (thaw2_int _ _ _ _)), .inr (.inl ⟨hok, rfl⟩)⟩
  have few := ((ROk_iff t).2 hok).few
  have sm := small_of hok
  have bad : ∀ {K' : Heap}, ¬ (inOk t p [0, 3] ∧ (0 ≤ pr ∧ pr ≤ 255)) → ∃ r, thawV true K' (.tuple [.agg [.nils, .nils, .nils], i64 12]) = some r ∧ RAns t (inOk t p [0, 3] ∧ (0 ≤ pr ∧ pr ≤ 255)) (Tab.start t p e pr) r := fun {K'} hno =>
    ⟨_, thawV_tup (mapM2 (thaw2_none _ _) (thaw2_int _ _ _ _)), .inr (.inr ⟨hok, hno, rfl⟩)⟩
  by_cases hin : inOk t p [0, 3]
  · obtain ⟨q, hq, hs⟩ := hin
    have hs1 : q.state = 0 ∨ q.state = 3 := by simpa using hs
    have cs : decide ((at? t.ps p).map Pr.state = some 0) = true ∨ decide ((at? t.ps p).map Pr.state = some 0) = false ∧ decide ((at? t.ps p).map Pr.state = some 3) = true := by
      rw [hq]
      rcases hs1 with g | g <;> simp [g]
    by_cases hnb : 0 ≤ pr ∧ pr ≤ 255
    · have c1 : decide (pr < 0) = false := decide_eq_false (by omega)
      have c2 : decide (255 < pr) = false := decide_eq_false (by omega)
      have hrow' : prRow (startP e pr) = [.int .u32 0, .int .u32 0, .int .u32 0, .int .u32 0, .int .u32 0, .int .u32 0, .int .u32 0, .int .u32 0, .int .u32 0, .int .u32 0, .int .u32 0, .int .u32 0, .int .u32 0, .int .u32 0, .int .u32 0, .int .u32 0,
        .int .u32 e, .int .i64 1, .int .i64 pr, .int .i64 0, .int .i64 0] := rfl
      have hlt0 := at?_lt hq
      obtain ⟨k, rfl⟩ := Int.eq_ofNat_of_zero_le hlt0.1
      have hk : k < t.ps.length := by omega
      obtain ⟨a0, a1, a2, a3, a4, a5, a6, a7, a8, a9, a10, a11, a12, a13, a14, a15, hr, hrow⟩ := row16 (h.wp _ (List.getElem_mem hk))
      have hwk : Wp t.ps[k] := h.wp t.ps[k] (List.getElem_mem hk)
      rcases cs with s1 | ⟨s1, s2⟩
      · (repeat' (first | (simp only [wp, extractV, exists_eq_left', if_true, if_false, ite_true, ite_false, reduceIte, Nat.reduceAdd, Nat.reduceLT, Nat.reduceLeDiff, Nat.reduceEqDiff, ref_good_spec _ h, decide_eq_true hok, isIn_spec _ h, s1, c1, c2]) | (with_reducible refine Run.gC ?_ ?_ <;> intro hb <;> try simp only [hb]) | (with_reducible refine Run.gG ?_ ?_ <;> intro hb <;> try simp only [hb]) | (with_reducible refine Run.gQ ?_ ?_ <;> intro hb <;> try simp only [hb])))
        refine (rcopied_spec _ h sm (by exact Nat.zero_le _)).mono fun v H1 ⟨a, b, c, ev, o1, f, ll⟩ => ?_
        subst ev
        have i1 := InB.start o1 f (by exact Nat.zero_le _) ll h.wp
        have n1 : 2 ≤ H1.next := f.next
        have e1 : H1.floor = 0 := f.floor
        have z0 : ¬ 0 = H1.next := by omega
        have z1 : ¬ 1 = H1.next := by omega
        have c0 : H1.blk 0 = some ⟨3, [[x, y, z]]⟩ := (f.old 0 (by exact Nat.zero_lt_succ _) id).trans rfl
        have b1 : H1.blk 1 = some ⟨3, [[.nils, .nils, .nils]]⟩ := (f.old 1 (by exact Nat.lt_succ_self 1) id).trans rfl
        obtain ⟨xx, yy, zz, lx, B, p1, p2, p3, p4, p5, p6, p7, p8, p9, put⟩ := i1.proc (p := k) hk
        rw [Heap.set_blk, if_pos rfl] at p1
        cases p1
        rw [Heap.set_blk, if_neg p7, Heap.add_blk, if_neg p7] at p3
        have p4' : B.rows[k]? = some (prRow t.ps[k]) := p4
        rw [hrow] at p4'
        have hgs : ∀ r, (B.rows.set k r)[k]? = some r := fun r => List.getElem?_set_self p5
        have z2 : ¬ H1.next = lx := fun e => p7 e.symm
        have z3 : ¬ 1 = lx := by have : 2 ≤ lx := p8; omega
        have i3 := put ((fun _ => startP e pr)) (show Wp ((fun _ => startP e pr) t.ps[k]) from rfl)
        obtain ⟨x3, y3, z3', q10, ra⟩ := i3.app (k : Int) (by show t.q.length ≤ 8; omega)
        rw [Heap.set_blk, if_neg z2, Heap.set_blk, if_pos rfl] at q10
        cases q10
        (repeat' (first | (simp only [wp, extractV, exists_eq_left', if_true, if_false, ite_true, ite_false, reduceIte, Nat.reduceAdd, Nat.reduceLT, Nat.reduceLeDiff, Nat.reduceEqDiff, e1, p2, p3, p4', hgs, p7, z2, z3, b1, z1, buildV, fill, putRow]) | (with_reducible refine Run.gC ?_ ?_ <;> intro hb <;> try simp only [hb]) | (with_reducible refine Run.gG ?_ ?_ <;> intro hb <;> try simp only [hb]) | (with_reducible refine Run.gQ ?_ ?_ <;> intro hb <;> try simp only [hb])))
        rw [← hrow']
        refine (Run.slice (n := 0)).2 ⟨[intRow (k : Int)], rfl, ?_⟩
        refine ra.mono fun y4 H4 ⟨w1, w2, w3, w4, i4⟩ => ?_
        have f4 : H4.floor = 0 := w3.trans e1
        have d4 : H4.blk 1 = some ⟨3, [[.nils, .nils, .nils]]⟩ := by
          have := i4.old 1 (by exact Nat.lt_succ_self 1)
          rw [Heap.set_blk, if_neg z1] at this
          exact this.trans rfl
        (repeat' (first | (simp only [wp, extractV, exists_eq_left', if_true, if_false, ite_true, ite_false, reduceIte, Nat.reduceAdd, Nat.reduceLT, Nat.reduceLeDiff, Nat.reduceEqDiff, w1, w2, f4, d4, z1, tupV]) | (with_reducible refine Run.gC ?_ ?_ <;> intro hb <;> try simp only [hb]) | (with_reducible refine Run.gG ?_ ?_ <;> intro hb <;> try simp only [hb]) | (with_reducible refine Run.gQ ?_ ?_ <;> intro hb <;> try simp only [hb])))
        obtain ⟨x9, y9, z9, q19, o9, k9⟩ := (i4).tab
        rw [Heap.set_blk, if_pos rfl] at q19
        cases q19
        obtain ⟨a', b', c', s1, s2⟩ := o9.show1 (K' := ((H4.set H1.next ⟨3, [[a, y4, c]]⟩).set 1 ⟨3, [[a, y4, c]]⟩)) (i4).wp (TabOk.start hok hq hs1 hnb) (fun k' b' hk' hb' => by
          have : 2 ≤ k' ∧ k' ≠ H1.next := k9 k' hk'
          rw [Heap.set_blk, if_neg (by omega)]
          exact hb') true
        exact ⟨_, thawV_tup (mapM2 s1 (thaw2_int _ _ _ _)), .inl ⟨hok, ⟨⟨q, hq, hs⟩, hnb⟩, _, _, _, rfl, s2⟩⟩
      · (repeat' (first | (simp only [wp, extractV, exists_eq_left', if_true, if_false, ite_true, ite_false, reduceIte, Nat.reduceAdd, Nat.reduceLT, Nat.reduceLeDiff, Nat.reduceEqDiff, ref_good_spec _ h, decide_eq_true hok, isIn_spec _ h, s1, s2, c1, c2]) | (with_reducible refine Run.gC ?_ ?_ <;> intro hb <;> try simp only [hb]) | (with_reducible refine Run.gG ?_ ?_ <;> intro hb <;> try simp only [hb]) | (with_reducible refine Run.gQ ?_ ?_ <;> intro hb <;> try simp only [hb])))
        refine (rcopied_spec _ h sm (by exact Nat.zero_le _)).mono fun v H1 ⟨a, b, c, ev, o1, f, ll⟩ => ?_
        subst ev
        have i1 := InB.start o1 f (by exact Nat.zero_le _) ll h.wp
        have n1 : 2 ≤ H1.next := f.next
        have e1 : H1.floor = 0 := f.floor
        have z0 : ¬ 0 = H1.next := by omega
        have z1 : ¬ 1 = H1.next := by omega
        have c0 : H1.blk 0 = some ⟨3, [[x, y, z]]⟩ := (f.old 0 (by exact Nat.zero_lt_succ _) id).trans rfl
        have b1 : H1.blk 1 = some ⟨3, [[.nils, .nils, .nils]]⟩ := (f.old 1 (by exact Nat.lt_succ_self 1) id).trans rfl
        obtain ⟨xx, yy, zz, lx, B, p1, p2, p3, p4, p5, p6, p7, p8, p9, put⟩ := i1.proc (p := k) hk
        rw [Heap.set_blk, if_pos rfl] at p1
        cases p1
        rw [Heap.set_blk, if_neg p7, Heap.add_blk, if_neg p7] at p3
        have p4' : B.rows[k]? = some (prRow t.ps[k]) := p4
        rw [hrow] at p4'
        have hgs : ∀ r, (B.rows.set k r)[k]? = some r := fun r => List.getElem?_set_self p5
        have z2 : ¬ H1.next = lx := fun e => p7 e.symm
        have z3 : ¬ 1 = lx := by have : 2 ≤ lx := p8; omega
        have i3 := put ((fun _ => startP e pr)) (show Wp ((fun _ => startP e pr) t.ps[k]) from rfl)
        obtain ⟨x3, y3, z3', q10, ra⟩ := i3.app (k : Int) (by show t.q.length ≤ 8; omega)
        rw [Heap.set_blk, if_neg z2, Heap.set_blk, if_pos rfl] at q10
        cases q10
        (repeat' (first | (simp only [wp, extractV, exists_eq_left', if_true, if_false, ite_true, ite_false, reduceIte, Nat.reduceAdd, Nat.reduceLT, Nat.reduceLeDiff, Nat.reduceEqDiff, e1, p2, p3, p4', hgs, p7, z2, z3, b1, z1, buildV, fill, putRow]) | (with_reducible refine Run.gC ?_ ?_ <;> intro hb <;> try simp only [hb]) | (with_reducible refine Run.gG ?_ ?_ <;> intro hb <;> try simp only [hb]) | (with_reducible refine Run.gQ ?_ ?_ <;> intro hb <;> try simp only [hb])))
        rw [← hrow']
        refine (Run.slice (n := 0)).2 ⟨[intRow (k : Int)], rfl, ?_⟩
        refine ra.mono fun y4 H4 ⟨w1, w2, w3, w4, i4⟩ => ?_
        have f4 : H4.floor = 0 := w3.trans e1
        have d4 : H4.blk 1 = some ⟨3, [[.nils, .nils, .nils]]⟩ := by
          have := i4.old 1 (by exact Nat.lt_succ_self 1)
          rw [Heap.set_blk, if_neg z1] at this
          exact this.trans rfl
        (repeat' (first | (simp only [wp, extractV, exists_eq_left', if_true, if_false, ite_true, ite_false, reduceIte, Nat.reduceAdd, Nat.reduceLT, Nat.reduceLeDiff, Nat.reduceEqDiff, w1, w2, f4, d4, z1, tupV]) | (with_reducible refine Run.gC ?_ ?_ <;> intro hb <;> try simp only [hb]) | (with_reducible refine Run.gG ?_ ?_ <;> intro hb <;> try simp only [hb]) | (with_reducible refine Run.gQ ?_ ?_ <;> intro hb <;> try simp only [hb])))
        obtain ⟨x9, y9, z9, q19, o9, k9⟩ := (i4).tab
        rw [Heap.set_blk, if_pos rfl] at q19
        cases q19
        obtain ⟨a', b', c', s1, s2⟩ := o9.show1 (K' := ((H4.set H1.next ⟨3, [[a, y4, c]]⟩).set 1 ⟨3, [[a, y4, c]]⟩)) (i4).wp (TabOk.start hok hq hs1 hnb) (fun k' b' hk' hb' => by
          have : 2 ≤ k' ∧ k' ≠ H1.next := k9 k' hk'
          rw [Heap.set_blk, if_neg (by omega)]
          exact hb') true
        exact ⟨_, thawV_tup (mapM2 s1 (thaw2_int _ _ _ _)), .inl ⟨hok, ⟨⟨q, hq, hs⟩, hnb⟩, _, _, _, rfl, s2⟩⟩
    · by_cases c1 : pr < 0
      · rcases cs with s1 | ⟨s1, s2⟩
        · (repeat' (first | (simp only [wp, extractV, exists_eq_left', if_true, if_false, ite_true, ite_false, reduceIte, Nat.reduceAdd, Nat.reduceLT, Nat.reduceLeDiff, Nat.reduceEqDiff, ref_good_spec _ h, decide_eq_true hok, isIn_spec _ h, s1, decide_eq_true c1, buildV, fill, tupV]) | (with_reducible refine Run.gC ?_ ?_ <;> intro hb <;> try simp only [hb]) | (with_reducible refine Run.gG ?_ ?_ <;> intro hb <;> try simp only [hb]) | (with_reducible refine Run.gQ ?_ ?_ <;> intro hb <;> try simp only [hb])))
          exact bad fun g => hnb g.2
        · (repeat' (first | (simp only [wp, extractV, exists_eq_left', if_true, if_false, ite_true, ite_false, reduceIte, Nat.reduceAdd, Nat.reduceLT, Nat.reduceLeDiff, Nat.reduceEqDiff, ref_good_spec _ h, decide_eq_true hok, isIn_spec _ h, s1, s2, decide_eq_true c1, buildV, fill, tupV]) | (with_reducible refine Run.gC ?_ ?_ <;> intro hb <;> try simp only [hb]) | (with_reducible refine Run.gG ?_ ?_ <;> intro hb <;> try simp only [hb]) | (with_reducible refine Run.gQ ?_ ?_ <;> intro hb <;> try simp only [hb])))
          exact bad fun g => hnb g.2
      · rcases cs with s1 | ⟨s1, s2⟩
        · (repeat' (first | (simp only [wp, extractV, exists_eq_left', if_true, if_false, ite_true, ite_false, reduceIte, Nat.reduceAdd, Nat.reduceLT, Nat.reduceLeDiff, Nat.reduceEqDiff, ref_good_spec _ h, decide_eq_true hok, isIn_spec _ h, s1, decide_eq_false c1, decide_eq_true (show 255 < pr by omega), buildV, fill, tupV]) | (with_reducible refine Run.gC ?_ ?_ <;> intro hb <;> try simp only [hb]) | (with_reducible refine Run.gG ?_ ?_ <;> intro hb <;> try simp only [hb]) | (with_reducible refine Run.gQ ?_ ?_ <;> intro hb <;> try simp only [hb])))
          exact bad fun g => hnb g.2
        · (repeat' (first | (simp only [wp, extractV, exists_eq_left', if_true, if_false, ite_true, ite_false, reduceIte, Nat.reduceAdd, Nat.reduceLT, Nat.reduceLeDiff, Nat.reduceEqDiff, ref_good_spec _ h, decide_eq_true hok, isIn_spec _ h, s1, s2, decide_eq_false c1, decide_eq_true (show 255 < pr by omega), buildV, fill, tupV]) | (with_reducible refine Run.gC ?_ ?_ <;> intro hb <;> try simp only [hb]) | (with_reducible refine Run.gG ?_ ?_ <;> intro hb <;> try simp only [hb]) | (with_reducible refine Run.gQ ?_ ?_ <;> intro hb <;> try simp only [hb])))
          exact bad fun g => hnb g.2
  · have s1 : decide ((at? t.ps p).map Pr.state = some 0) = false := decide_eq_false fun g => by
      obtain ⟨q, hq, hs⟩ := Option.map_eq_some_iff.1 g
      exact hin ⟨q, hq, by simp [hs]⟩
    have s2 : decide ((at? t.ps p).map Pr.state = some 3) = false := decide_eq_false fun g => by
      obtain ⟨q, hq, hs⟩ := Option.map_eq_some_iff.1 g
      exact hin ⟨q, hq, by simp [hs]⟩
    (repeat' (first | (simp only [wp, extractV, exists_eq_left', if_true, if_false, ite_true, ite_false, reduceIte, Nat.reduceAdd, Nat.reduceLT, Nat.reduceLeDiff, Nat.reduceEqDiff, ref_good_spec _ h, decide_eq_true hok, isIn_spec _ h, s1, s2, buildV, fill, tupV]) | (with_reducible refine Run.gC ?_ ?_ <;> intro hb <;> try simp only [hb]) | (with_reducible refine Run.gG ?_ ?_ <;> intro hb <;> try simp only [hb]) | (with_reducible refine Run.gQ ?_ ?_ <;> intro hb <;> try simp only [hb])))
    exact bad fun g => hin g.1
end Go.Fv.Tr
