/-
  What the document's functions of the layer 9 answer: Block. By an AI agent; no person has read it.
-/
import Derived.Test.YtjjiphigolegbabGreatDoorFvSqK
set_option linter.unusedVariables false
set_option linter.unusedSimpArgs false
set_option linter.unusedSectionVars false
/-! What the document's functions of the layer 9 answer: Block. -/
namespace Go.Fv.Tr
open Go Go.Fv Go.Fv.Pl Go.Proofs
set_option linter.unusedSimpArgs false
set_option linter.unusedVariables false
variable {G : Nat → Option (List V)}

theorem insT_done {x : Tm} : ∀ {l m : List Tm}, (∃ a ∈ l, before x a) → insT x (l ++ m) = insT x l ++ m
  | [], m, h => by obtain ⟨a, ha, _⟩ := h; cases ha
  | a :: l, m, h => by
    rw [List.cons_append, insT, insT]
    by_cases hb : before x a
    · rw [if_pos hb, if_pos hb]; rfl
    · rw [if_neg hb, if_neg hb, insT_done, List.cons_append]
      obtain ⟨c, hc, hbc⟩ := h
      rcases List.mem_cons.1 hc with rfl | hc
      · exact absurd hbc hb
      · exact ⟨c, hc, hbc⟩
theorem insT_none {x : Tm} : ∀ {l m : List Tm}, (∀ a ∈ l, ¬ before x a) → insT x (l ++ m) = l ++ insT x m
  | [], m, h => rfl
  | a :: l, m, h => by
    rw [List.cons_append, insT, if_neg (h a (by simp)), insT_none fun b hb => h b (by simp [hb])]
    rfl

variable {K H H3 : Heap} {lt : Nat} {u : Tab}
/-- A timer behind the timers. -/
theorem InB.appT (h : InB K H lt u) {x y z : V} (hz : H.blk lt = some ⟨3, [[x, y, z]]⟩) (a : Tm) {m : M V} {b : Blk}
    (hm : Own (H.add b) z 2 (u.ts.map tmRow) → Run m (H.add b) fun z' H' => Own H' z' 2 (u.ts.map tmRow ++ [tmRow a]) ∧ Frame (H.add b) H' (fun l => loc z = some l) ∧ ∀ l, loc z' = some l → loc z = some l ∨ (H.add b).next ≤ l) :
    Run m (H.add b) fun z' H3 => H3.blk lt = some ⟨3, [[x, y, z]]⟩ ∧ z'.cells? = some [z'] ∧ H3.floor = H.floor ∧ H.next < H3.next ∧ (∀ l, loc z' = some l → loc z = some l ∨ H.next < l) ∧ (∀ k, k < H.next → loc z ≠ some k → H3.blk k = H.blk k) ∧
      InB K (H3.set lt ⟨3, [[x, y, z']]⟩) lt { u with ts := u.ts ++ [a] } := by
  obtain ⟨x', y', z', hb, ho, hk⟩ := h.tab
  rw [hz] at hb
  cases hb
  have hln := h.ln
  have hl2 := h.l2
  have fa : Frame H (H.add b) (fun _ => False) := Frame.add _ _
  refine (hm (ho.s.frame fa fun _ _ g => g)).mono fun z' H3 ⟨oz, f3, l3⟩ => ?_
  have f4 : Frame H H3 (fun k => loc z = some k) := fa.trans f3 (fun _ _ g => g.elim) (fun _ _ g => g)
  have lz : ∀ k, loc z' = some k → loc z = some k ∨ H.next + 1 ≤ k := l3
  have hn3 : H.next + 1 ≤ H3.next := f3.next
  have hzl : loc z ≠ some lt := fun e => (hk lt (.inr (.inr e))).2 rfl
  have hb3 : H3.blk lt = some ⟨3, [[x, y, z]]⟩ := (f4.old lt hln hzl).trans hz
  have o3 : OwnTab H3 x y z' { u with ts := u.ts ++ [a] } := by
    refine ⟨ho.p.frame f4 fun l h1 h2 => ho.ps l h1 h2, ho.q.frame f4 fun l h1 h2 => ho.qs l h1 h2, ?_, ho.pq, fun l h1 h2 => ?_, fun l h1 h2 => ?_⟩
    · show Own H3 z' 2 ((u.ts ++ [a]).map tmRow)
      rw [List.map_append]; exact oz
    · rcases lz l h2 with g | g
      · exact ho.ps l h1 g
      · have := ho.lt (.inl h1); omega
    · rcases lz l h2 with g | g
      · exact ho.qs l h1 g
      · have := ho.lt (.inr (.inl h1)); omega
  have hk' : ∀ k, (loc x = some k ∨ loc y = some k ∨ loc z' = some k) → K.next ≤ k ∧ k ≠ lt := fun k g => by
    rcases g with g | g | g
    · exact hk k (.inl g)
    · exact hk k (.inr (.inl g))
    · rcases lz k g with g | g
      · exact hk k (.inr (.inr g))
      · omega
  refine ⟨hb3, oz.cells, f4.floor, hn3, fun l hl => (lz l hl).imp id fun g => by omega, fun k hk2 hne => f4.old k hk2 hne, ?_⟩
  refine ⟨f4.floor.trans h.fl, h.k0, fun k hk2 => ?_, hl2, by show lt < H3.next; omega, ⟨x, y, z', by rw [Heap.set_blk, if_pos rfl], o3.frame (Frame.set _ lt (p := fun k => k = lt) rfl) fun l hl e => (hk' l hl).2 e, hk'⟩, h.wp⟩
  rw [Heap.set_blk, if_neg (by omega)]
  exact (f4.old k (by omega) fun g => by have := (hk k (.inr (.inr g))).1; omega).trans (h.old k hk2)

theorem insT_len (x : Tm) (l : List Tm) : (insT x l).length = l.length + 1 := by
  have := (insT_perm x l).length_eq
  rwa [List.length_append] at this

set_option maxRecDepth 20000 in
theorem rblock_j2 {call : FuncId → List V → M V} {x y z xa ya c' s0 : V} {t : Tab} {i : Nat} {dn : Bool} {Q : R → Heap → Prop} (hI : InB K H lt u) (hz : H.blk lt = some ⟨3, [[xa, ya, c']]⟩) (h0 : H.blk 0 = some ⟨3, [[x, y, z]]⟩) (hK : 0 < K.next) (hf : H.floor = 0)
    (h : IsTab x y z t) (hi : i < t.ts.length) (hlen : u.ts.length ≤ 16)
    (q : ∀ z' H', H'.blk lt = some ⟨3, [[xa, ya, z']]⟩ → InB K H' lt { u with ts := u.ts ++ [t.ts[i]] } → (∀ l, loc z' = some l → loc c' = some l ∨ H.next < l) → (∀ k, k < H.next → loc c' ≠ some k → k ≠ lt → H'.blk k = H.blk k) → H.next < H'.next → H'.floor = 0 →
      Q (Ex.normal, [.bool dn, .int .i64 ((i + 1 : Nat) : Int)]) H') :
    Run (ferry_ferryref09_Block_j2 G call (.ptr lt 0 0) (.ptr 0 0 0) [s0, .int .i64 (i : Nat)] (.bool dn)) H Q := by
  have h2 := h.s.idx (k := .i64) (i := i) (by simpa using hi)
  simp only [List.getElem_map] at h2
  simp only [ferry_ferryref09_Block_j2]
  (repeat' (first | (simp only [wp, extractV, exists_eq_left', if_true, if_false, ite_true, ite_false, reduceIte, Nat.reduceAdd, Nat.reduceLT, Nat.reduceLeDiff, Nat.reduceEqDiff, hz, h0, h2, tm_len, tm_take]) | (with_reducible refine Run.gC ?_ ?_ <;> intro hb <;> try simp only [hb]) | (with_reducible refine Run.gG ?_ ?_ <;> intro hb <;> try simp only [hb]) | (with_reducible refine Run.gQ ?_ ?_ <;> intro hb <;> try simp only [hb])))
  refine (Run.slice (n := 0)).2 ⟨[tmRow t.ts[i]], rfl, ?_⟩
  refine (hI.appT hz t.ts[i] fun oz => Run.tapp (items := [tmRow t.ts[i]]) (by show H.floor ≤ H.next + 1; omega) oz (fun k hk => ?_) ?_ ?_).mono fun z' H3 ⟨w1, w2, w3, w4, w5, w6, w7⟩ => ?_
  · have : k < H.next + 1 := oz.lt hk
    simp [visB, Heap.add_next]
    omega
  · simp [itemsV, visB, Heap.add_next, Heap.add_blk]
  · simp only [List.length_map, List.length_cons, List.length_nil]; unfold room; omega
  (repeat' (first | (simp only [wp, extractV, exists_eq_left', if_true, if_false, ite_true, ite_false, reduceIte, Nat.reduceAdd, Nat.reduceLT, Nat.reduceLeDiff, Nat.reduceEqDiff, w1, w2, w3, hf, addN hi h.big.2.2]) | (with_reducible refine Run.gC ?_ ?_ <;> intro hb <;> try simp only [hb]) | (with_reducible refine Run.gG ?_ ?_ <;> intro hb <;> try simp only [hb]) | (with_reducible refine Run.gQ ?_ ?_ <;> intro hb <;> try simp only [hb])))
  refine q z' _ ((Heap.set_blk _ _ _).trans (if_pos rfl)) w7 w5 (fun k h1 h2 h3 => ?_) (by exact w4) (w3.trans hf)
  rw [Heap.set_blk, if_neg h3]
  exact w6 k h1 h2

set_option maxRecDepth 20000 in
theorem rblock_spec (n : Nat) {x y z : V} {t : Tab} (h : IsTab x y z t) (p w o d : Int) :
    ∃ r, callV (cfg G) (sem (cfg G) (n + 4)) 7 [.agg [x, y, z], .int .i64 p, .int .i64 w, .int .i64 o, .int .i64 d] = M.ret r ∧ RAns t (inOk t p [1] ∧ blkOk w o d) (Tab.block t p w o d) r := by
  refine callV_pureE rfl (by simp [h.closed, cI]) ?_
  rw [ferry_ferryref09_Block_eq]
  simp only [ferry_ferryref09_Block]
  by_cases hok : TabOk t
  case neg =>
    (repeat' (first | (simp only [wp, extractV, exists_eq_left', if_true, if_false, ite_true, ite_false, reduceIte, Nat.reduceAdd, Nat.reduceLT, Nat.reduceLeDiff, Nat.reduceEqDiff, ref_good_spec _ h, decide_eq_false hok, buildV, fill, tupV]) | (with_reducible refine Run.gC ?_ ?_ <;> intro hb <;> try simp only [hb]) | (with_reducible refine Run.gG ?_ ?_ <;> intro hb <;> try simp only [hb]) | (with_reducible refine Run.gQ ?_ ?_ <;> intro hb <;> try simp only [hb])))
    exact ⟨_, thawV_tup (mapM2 (thaw2_none _ _) (thaw2_int _ _ _ _)), .inr (.inl ⟨hok, rfl⟩)⟩
  have few := ((ROk_iff t).2 hok).few
  have sm := small_of hok
  have bad : ∀ {K' : Heap}, ¬ (inOk t p [1] ∧ blkOk w o d) → ∃ r, thawV true K' (.tuple [.agg [.nils, .nils, .nils], i64 12]) = some r ∧ RAns t (inOk t p [1] ∧ blkOk w o d) (Tab.block t p w o d) r := fun {K'} hno =>
    ⟨_, thawV_tup (mapM2 (thaw2_none _ _) (thaw2_int _ _ _ _)), .inr (.inr ⟨hok, hno, rfl⟩)⟩
  by_cases hin : (at? t.ps p).map Pr.state = some 1
  case neg =>
    (repeat' (first | (simp only [wp, extractV, exists_eq_left', if_true, if_false, ite_true, ite_false, reduceIte, Nat.reduceAdd, Nat.reduceLT, Nat.reduceLeDiff, Nat.reduceEqDiff, ref_good_spec _ h, decide_eq_true hok, isIn_spec _ h, decide_eq_false hin, buildV, fill, tupV]) | (with_reducible refine Run.gC ?_ ?_ <;> intro hb <;> try simp only [hb]) | (with_reducible refine Run.gG ?_ ?_ <;> intro hb <;> try simp only [hb]) | (with_reducible refine Run.gQ ?_ ?_ <;> intro hb <;> try simp only [hb])))
    exact bad fun g => hin (inOk_iff.1 g.1)
  by_cases hnb : blkOk w o d
  case neg =>
    (repeat' (first | (simp only [wp, extractV, exists_eq_left', if_true, if_false, ite_true, ite_false, reduceIte, Nat.reduceAdd, Nat.reduceLT, Nat.reduceLeDiff, Nat.reduceEqDiff, ref_good_spec _ h, decide_eq_true hok, isIn_spec _ h, decide_eq_true hin, buildV, fill, tupV]) | (with_reducible refine Run.gC ?_ ?_ <;> intro hb <;> try simp only [hb]) | (with_reducible refine Run.gG ?_ ?_ <;> intro hb <;> try simp only [hb]) | (with_reducible refine Run.gQ ?_ ?_ <;> intro hb <;> try simp only [hb])))
    all_goals first
      | exact bad fun g => hnb g.2
      | (exfalso; simp only [decide_eq_true_eq, decide_eq_false_iff_not, beq_iff_eq, beq_eq_false_iff_ne, ne_eq] at *; exact hnb ⟨by omega, by omega, fun _ => by omega, by omega⟩)
  obtain ⟨q, hq, hs⟩ := Option.map_eq_some_iff.1 hin
  have c1 : decide (w < 1) = false := decide_eq_false (by have := hnb.1; omega)
  have c2 : decide (4 < w) = false := decide_eq_false (by have := hnb.1; omega)
  have c3 : decide (o < 0) = false := decide_eq_false (by have := hnb.2.1; omega)
  have c4 : decide (d < -1) = false := decide_eq_false (by have := hnb.2.2.2; omega)
  have c5 : decide (1010000 < d) = false := decide_eq_false (by have := hnb.2.2.2; omega)
  have cs : (w == 1) = true ∧ (o == 0) = true ∧ (d == -1) = false ∨ (w == 1) = false := by
    by_cases hw : w = 1
    · have := hnb.2.2.1 hw
      exact .inl (by simp [hw, this.1, this.2])
    · exact .inr (by simpa using hw)
  have hok' := TabOk.block hok hq hs hnb
  have hnt := not_timed hok hq (by omega)
  have hlt0 := at?_lt hq
  obtain ⟨k, rfl⟩ := Int.eq_ofNat_of_zero_le hlt0.1
  have hk : k < t.ps.length := by omega
  obtain ⟨a0, a1, a2, a3, a4, a5, a6, a7, a8, a9, a10, a11, a12, a13, a14, a15, hr, hrow⟩ := row16 (h.wp _ (List.getElem_mem hk))
  have hwk : Wp t.ps[k] := h.wp t.ps[k] (List.getElem_mem hk)
  have hrow' : prRow (blockP w o t.ps[k]) = [.int .u32 a0, .int .u32 a1, .int .u32 a2, .int .u32 a3, .int .u32 a4, .int .u32 a5, .int .u32 a6, .int .u32 a7, .int .u32 a8, .int .u32 a9, .int .u32 a10, .int .u32 a11, .int .u32 a12, .int .u32 a13, .int .u32 a14, .int .u32 a15,
    .int .u32 t.ps[k].pc, .int .i64 2, .int .i64 t.ps[k].prio, .int .i64 w, .int .i64 o] := by unfold prRow blockP; rw [hr]; rfl
  rcases cs with ⟨s1, s2, s3⟩ | s1
  · (repeat' (first | (simp only [wp, extractV, exists_eq_left', if_true, if_false, ite_true, ite_false, reduceIte, Nat.reduceAdd, Nat.reduceLT, Nat.reduceLeDiff, Nat.reduceEqDiff, ref_good_spec _ h, decide_eq_true hok, isIn_spec _ h, decide_eq_true hin, s1, s2, s3, c1, c2, c3, c4, c5]) | (with_reducible refine Run.gC ?_ ?_ <;> intro hb <;> try simp only [hb]) | (with_reducible refine Run.gG ?_ ?_ <;> intro hb <;> try simp only [hb]) | (with_reducible refine Run.gQ ?_ ?_ <;> intro hb <;> try simp only [hb])))
    refine (rcopied_spec _ h sm (by exact Nat.zero_le _)).mono fun v H1 ⟨a, b, c, ev, o1, f, ll⟩ => ?_
    subst ev
    have i1 := InB.start o1 f (by exact Nat.zero_le _) ll h.wp
    have n1 : 2 ≤ H1.next := f.next
    have e1 : H1.floor = 0 := f.floor
    have z0 : ¬ 0 = H1.next := by omega
    have z1 : ¬ 1 = H1.next := by omega
    have c0 : H1.blk 0 = some ⟨3, [[x, y, z]]⟩ := (f.old 0 (by exact Nat.zero_lt_succ _) id).trans rfl
    have b1 : H1.blk 1 = some ⟨3, [[.nils, .nils, .nils]]⟩ := (f.old 1 (by exact Nat.lt_succ_self 1) id).trans rfl
    (repeat' (first | (simp only [wp, extractV, exists_eq_left', if_true, if_false, ite_true, ite_false, reduceIte, Nat.reduceAdd, Nat.reduceLT, Nat.reduceLeDiff, Nat.reduceEqDiff, e1, c0, z0]) | (with_reducible refine Run.gC ?_ ?_ <;> intro hb <;> try simp only [hb]) | (with_reducible refine Run.gG ?_ ?_ <;> intro hb <;> try simp only [hb]) | (with_reducible refine Run.gQ ?_ ?_ <;> intro hb <;> try simp only [hb])))
    refine (out_spec _ h.q few.2.1 k (by simp only [Heap.set_floor, Heap.set_next, Heap.add_floor, Heap.add_next]; omega)).mono fun y' H3 ⟨oy, fy, ly⟩ => ?_
    obtain ⟨x3, y3, z3', q1, q2, i2⟩ := i1.setQ fy oy ly
    have e3 : H3.floor = 0 := fy.floor.trans e1
    have n3 : H1.next + 1 ≤ H3.next := fy.next
    have d0 : H3.blk 0 = some ⟨3, [[x, y, z]]⟩ := (fy.old 0 (by show 0 < H1.next + 1; omega) id).trans (by rw [Heap.set_blk, if_neg z0, Heap.add_blk, if_neg z0]; exact c0)
    have d1 : H3.blk 1 = some ⟨3, [[.nils, .nils, .nils]]⟩ := (fy.old 1 (by show 1 < H1.next + 1; omega) id).trans (by rw [Heap.set_blk, if_neg z1, Heap.add_blk, if_neg z1]; exact b1)
    obtain ⟨xx, yy, zz, lx, B, p1, p2, p3, p4, p5, p6, p7, p8, p9, put⟩ := i2.proc (p := k) hk
    rw [Heap.set_blk, if_pos rfl] at p1
    cases p1
    rw [Heap.set_blk, if_neg p7] at p3
    have p4' : B.rows[k]? = some (prRow t.ps[k]) := p4
    rw [hrow] at p4'
    have hgs : ∀ r, (B.rows.set k r)[k]? = some r := fun r => List.getElem?_set_self p5
    have z2 : ¬ H1.next = lx := fun e => p7 e.symm
    have z3 : ¬ 1 = lx := by have : 2 ≤ lx := p8; omega
    have i3 := put (blockP w o) (show Wp (blockP w o t.ps[k]) from hwk)
    have y0 : ¬ 0 = lx := by have : 2 ≤ lx := p8; omega
    by_cases hd : 0 ≤ d
    · (repeat' (first | (simp only [wp, extractV, exists_eq_left', if_true, if_false, ite_true, ite_false, reduceIte, Nat.reduceAdd, Nat.reduceLT, Nat.reduceLeDiff, Nat.reduceEqDiff, q2, e3, oy.cells, p2, p3, p4', hgs, p7, z2, z3, d1, z1, Heap.set_set, List.set_set, decide_eq_true hd, buildV, fill, putRow]) | (with_reducible refine Run.gC ?_ ?_ <;> intro hb <;> try simp only [hb]) | (with_reducible refine Run.gG ?_ ?_ <;> intro hb <;> try simp only [hb]) | (with_reducible refine Run.gQ ?_ ?_ <;> intro hb <;> try simp only [hb])))
      rw [← hrow']
      have y4 : ¬ H1.next = H3.next := by omega
      have y5 : ¬ H3.next = H1.next := by omega
      have y6 : ¬ 0 = H3.next := by omega
      have y7 : ¬ H3.next = lx := fun e => by have : lx < H3.next := p9; omega
      (repeat' (first | (simp only [wp, extractV, exists_eq_left', if_true, if_false, ite_true, ite_false, reduceIte, Nat.reduceAdd, Nat.reduceLT, Nat.reduceLeDiff, Nat.reduceEqDiff, y4, y5]) | (with_reducible refine Run.gC ?_ ?_ <;> intro hb <;> try simp only [hb]) | (with_reducible refine Run.gG ?_ ?_ <;> intro hb <;> try simp only [hb]) | (with_reducible refine Run.gQ ?_ ?_ <;> intro hb <;> try simp only [hb])))
      have i4 := i3.frame (Frame.loc ⟨2, [[.int .i64 0, .int .i64 0]]⟩ ⟨2, [tmRow ⟨(k : Int), d⟩]⟩) fun _ _ g => g.elim
      obtain ⟨x5, y5', z5, q5, o5, k5⟩ := i4.tab
      have e5 : some (⟨3, [[x5, y5', z5]]⟩ : Blk) = some ⟨3, [[x3, y', z3']]⟩ := q5.symm.trans (by
        show (if H1.next = H3.next then _ else if H1.next = H3.next then _ else if H1.next = lx then _ else if H1.next = H1.next then _ else _) = _
        rw [if_neg y4, if_neg y4, if_neg z2, if_pos rfl])
      cases e5
      have i5 := i4.put (x := x3) (y := y') (z := .nils) (v := ⟨setP t.ps (k : Int) (blockP w o), t.q.filter (· ≠ (k : Int)), []⟩) ⟨o5.p, o5.q, Own.nils _ _, o5.pq, fun _ _ g => (by cases g), fun _ _ g => (by cases g)⟩ (fun j g => by
        rcases g with g | g | g
        · exact k5 j (.inl g)
        · exact k5 j (.inr (.inl g))
        · cases g) i4.wp
      have hxr : right t.ps.length ⟨(k : Int), d⟩ := right_at hq hd (by have := hnb.2.2.2; omega)
      have hset := insT_set hok.ts hnt hxr
      have eb : Tab.block t k w o d = ⟨setP t.ps (k : Int) (blockP w o), t.q.filter (· ≠ (k : Int)), insT ⟨(k : Int), d⟩ t.ts⟩ := by unfold Tab.block; rw [if_pos hd, hset]
      rw [eb] at hok' ⊢
      refine Run.loop (N := t.ts.length) (fun i s H => ∃ (dn : Bool) (c' : V), s = [.bool dn, .int .i64 (i : Nat)] ∧ InB _ H H1.next ⟨setP t.ps (k : Int) (blockP w o), t.q.filter (· ≠ (k : Int)), if dn then insT ⟨(k : Int), d⟩ (t.ts.take i) else t.ts.take i⟩ ∧
        H.blk H1.next = some ⟨3, [[x3, y', c']]⟩ ∧ (∀ l, loc c' = some l → l ≠ H3.next) ∧ H3.next < H.next ∧ H.blk H3.next = some ⟨2, [tmRow ⟨(k : Int), d⟩]⟩ ∧ (dn = true ↔ ∃ a ∈ t.ts.take i, before ⟨(k : Int), d⟩ a))
        ⟨false, .nils, rfl, i5, by rw [Heap.set_blk, if_pos rfl], (fun l g => by cases g), by exact Nat.lt_succ_self _, by rw [Heap.set_blk, if_neg y5, Heap.set_blk, if_pos rfl]; rfl, by simp⟩ ?_
      rintro i s H hi ⟨dn, c', rfl, hI, hz, hcl, hnx, hbx, hdn⟩
      have f0 : H.floor = 0 := hI.fl
      have g0 : H.blk 0 = some ⟨3, [[x, y, z]]⟩ := (hI.old 0 (by exact Nat.zero_lt_succ _)).trans rfl
      have g1 : H.blk 1 = some ⟨3, [[.nils, .nils, .nils]]⟩ := (hI.old 1 (by exact Nat.lt_succ_self 1)).trans rfl
      have m0 : 0 < H.next := by omega
      have m1 : H1.next < H.next := hI.ln
      have mx : ¬ H3.next = H.next := by omega
      have hc2 : ∀ l, loc c' = some l → 2 ≤ l ∧ l ≠ H1.next := fun l g => by
        obtain ⟨x7, y7, z7, q7, _, k7⟩ := hI.tab
        rw [hz] at q7
        cases q7
        exact k7 l (.inr (.inr g))
      have hc0 : loc c' ≠ some 0 := fun g => by have := (hc2 0 g).1; omega
      have hc1 : loc c' ≠ some 1 := fun g => by have := (hc2 1 g).1; omega
      by_cases hlt : i < t.ts.length
      · have h2 := h.s.idx (k := .i64) (i := i) (by simpa using hlt)
        simp only [List.getElem_map] at h2
        have ea := ahead_spec (G := G) (n + 2) ⟨(k : Int), d⟩ t.ts[i]
        have t1 := take_snoc hlt
        have tl : (t.ts.take i).length ≤ 8 := by rw [List.length_take]; omega
        have il := insT_len ⟨(k : Int), d⟩ (t.ts.take i)
        simp only [ferry_ferryref09_Block_l1]
        cases dn with
        | true =>
          have hd' := hdn.1 rfl
          (repeat' (first | (simp only [wp, extractV, exists_eq_left', if_true, if_false, ite_true, ite_false, reduceIte, Nat.reduceAdd, Nat.reduceLT, Nat.reduceLeDiff, Nat.reduceEqDiff, g0, h.s.len, List.length_map, ltT hlt]) | (with_reducible refine Run.gC ?_ ?_ <;> intro hb <;> try simp only [hb]) | (with_reducible refine Run.gG ?_ ?_ <;> intro hb <;> try simp only [hb]) | (with_reducible refine Run.gQ ?_ ?_ <;> intro hb <;> try simp only [hb])))
          refine rblock_j2 (xa := x3) (ya := y') (c' := c') (hI.frame (Frame.q _ (fun _ => False)) fun _ _ g => g.elim) (by simp [Heap.q_blk, Heap.q_next, Heap.q_floor, Heap.set_blk, Heap.set_next, Heap.set_floor, Heap.add_blk, Heap.add_next, Heap.add_floor, m1, hz]) (by simp [Heap.q_blk, Heap.q_next, Heap.q_floor, Heap.set_blk, Heap.set_next, Heap.set_floor, Heap.add_blk, Heap.add_next, Heap.add_floor, m0, g0]) (by exact Nat.zero_lt_succ _) (by simp [Heap.q_blk, Heap.q_next, Heap.q_floor, Heap.set_blk, Heap.set_next, Heap.set_floor, Heap.add_blk, Heap.add_next, Heap.add_floor, f0]) h hlt (by simp only [if_true]; omega) fun z' H' w1 w2 w3 w4 w5 w6 => Stp.normal.2 ⟨hlt, true, z', rfl, ?_, w1, fun l hl => ?_, Nat.lt_trans hnx w5, ?_, ?_⟩
          · rw [t1]
            simp only [if_true] at w2 ⊢
            rw [insT_done hd']
            exact w2
          · rcases w3 l hl with g | g
            · exact hcl l g
            · have : H.next < l := g
              omega
          · exact (w4 H3.next hnx (fun g => hcl _ g rfl) y5).trans (by simp [Heap.q_blk, Heap.q_next, Heap.q_floor, Heap.set_blk, Heap.set_next, Heap.set_floor, Heap.add_blk, Heap.add_next, Heap.add_floor, hnx, hbx])
          · refine ⟨fun _ => ?_, fun _ => rfl⟩
            obtain ⟨a, ha, hb⟩ := hd'
            exact ⟨a, by rw [t1]; exact List.mem_append_left _ ha, hb⟩
        | false =>
          have hno : ∀ a ∈ t.ts.take i, ¬ before ⟨(k : Int), d⟩ a := fun a ha hb => by have := hdn.2 ⟨a, ha, hb⟩; cases this
          by_cases hb : before ⟨(k : Int), d⟩ t.ts[i]
          · (repeat' (first | (simp only [wp, extractV, exists_eq_left', if_true, if_false, ite_true, ite_false, reduceIte, Nat.reduceAdd, Nat.reduceLT, Nat.reduceLeDiff, Nat.reduceEqDiff, g0, h.s.len, List.length_map, ltT hlt, h2, tm_len, tm_take, hbx, ea, decide_eq_true hb, m0, m1, hnx, hz]) | (with_reducible refine Run.gC ?_ ?_ <;> intro hb <;> try simp only [hb]) | (with_reducible refine Run.gG ?_ ?_ <;> intro hb <;> try simp only [hb]) | (with_reducible refine Run.gQ ?_ ?_ <;> intro hb <;> try simp only [hb])))
            refine (Run.slice (n := 0)).2 ⟨[tmRow ⟨(k : Int), d⟩], rfl, ?_⟩
            refine ((hI.frame (Frame.q _ (fun _ => False)) fun _ _ g => g.elim).appT (x := x3) (y := y') (z := c') (by simp [Heap.q_blk, Heap.q_next, Heap.q_floor, Heap.set_blk, Heap.set_next, Heap.set_floor, Heap.add_blk, Heap.add_next, Heap.add_floor, m1, hz]) ⟨(k : Int), d⟩ fun oz => Run.app (items := [tmRow ⟨(k : Int), d⟩]) (by show H.floor ≤ H.next + 1; omega) oz (by simp [itemsV, Heap.add_blk]) ?_).mono fun z' H5 ⟨w1, w2, w3, w4, w5, w6, w7⟩ => ?_
            · simp only [List.length_map, List.length_cons, List.length_nil, Bool.false_eq_true, if_false]; unfold room; omega
            have v3 : H5.floor = 0 := w3.trans (by simp [Heap.q_blk, Heap.q_next, Heap.q_floor, Heap.set_blk, Heap.set_next, Heap.set_floor, Heap.add_blk, Heap.add_next, Heap.add_floor, f0])
            (repeat' (first | (simp only [wp, extractV, exists_eq_left', if_true, if_false, ite_true, ite_false, reduceIte, Nat.reduceAdd, Nat.reduceLT, Nat.reduceLeDiff, Nat.reduceEqDiff, w1, w2, v3]) | (with_reducible refine Run.gC ?_ ?_ <;> intro hb <;> try simp only [hb]) | (with_reducible refine Run.gG ?_ ?_ <;> intro hb <;> try simp only [hb]) | (with_reducible refine Run.gQ ?_ ?_ <;> intro hb <;> try simp only [hb])))
            have w4' : H.next < H5.next := w4
            refine rblock_j2 w7 ((Heap.set_blk _ _ _).trans (if_pos rfl)) (by rw [Heap.set_blk, if_neg z0]; exact (w6 0 m0 hc0).trans (by simp [Heap.q_blk, Heap.q_next, Heap.q_floor, Heap.set_blk, Heap.set_next, Heap.set_floor, Heap.add_blk, Heap.add_next, Heap.add_floor, m0, g0])) (by exact Nat.zero_lt_succ _) v3 h hlt (by simp only [List.length_append, List.length_singleton, Bool.false_eq_true, if_false]; omega) fun z2' H' r1 r2 r3 r4 r5 r6 => Stp.normal.2 ⟨hlt, true, z2', rfl, ?_, r1, fun l hl => ?_, ?_, ?_, ?_⟩
            · have ee : insT ⟨(k : Int), d⟩ (t.ts.take (i + 1)) = (t.ts.take i ++ [(⟨(k : Int), d⟩ : Tm)]) ++ [t.ts[i]] := by
                rw [t1, insT_none hno]
                simp [insT, hb]
              simp only [Bool.false_eq_true, if_false, if_true] at r2 ⊢
              rw [ee]
              exact r2
            · have u1 : loc z' = some l ∨ H5.next < l := r3 l hl
              have u2 : ∀ j, loc z' = some j → loc c' = some j ∨ H.next < j := w5
              rcases u1 with g | g
              · rcases u2 l g with g | g
                · exact hcl l g
                · omega
              · omega
            · have : H5.next < H'.next := r5
              omega
            · have u2 : ∀ j, loc z' = some j → loc c' = some j ∨ H.next < j := w5
              refine (r4 H3.next (by show H3.next < H5.next; omega) (fun g => ?_) y5).trans ?_
              · rcases u2 _ g with g | g
                · exact hcl _ g rfl
                · omega
              · rw [Heap.set_blk, if_neg y5]
                exact (w6 H3.next hnx (fun g => hcl _ g rfl)).trans (by simp [Heap.q_blk, Heap.q_next, Heap.q_floor, Heap.set_blk, Heap.set_next, Heap.set_floor, Heap.add_blk, Heap.add_next, Heap.add_floor, hnx, hbx])
            · exact ⟨fun _ => ⟨t.ts[i], by rw [t1]; exact List.mem_append_right _ (List.mem_singleton.2 rfl), hb⟩, fun _ => rfl⟩
          · (repeat' (first | (simp only [wp, extractV, exists_eq_left', if_true, if_false, ite_true, ite_false, reduceIte, Nat.reduceAdd, Nat.reduceLT, Nat.reduceLeDiff, Nat.reduceEqDiff, g0, h.s.len, List.length_map, ltT hlt, h2, tm_len, tm_take, hbx, ea, decide_eq_false hb]) | (with_reducible refine Run.gC ?_ ?_ <;> intro hb <;> try simp only [hb]) | (with_reducible refine Run.gG ?_ ?_ <;> intro hb <;> try simp only [hb]) | (with_reducible refine Run.gQ ?_ ?_ <;> intro hb <;> try simp only [hb])))
            refine rblock_j2 (xa := x3) (ya := y') (c' := c') (hI.frame (Frame.q _ (fun _ => False)) fun _ _ g => g.elim) (by simp [Heap.q_blk, Heap.q_next, Heap.q_floor, Heap.set_blk, Heap.set_next, Heap.set_floor, Heap.add_blk, Heap.add_next, Heap.add_floor, m1, hz]) (by simp [Heap.q_blk, Heap.q_next, Heap.q_floor, Heap.set_blk, Heap.set_next, Heap.set_floor, Heap.add_blk, Heap.add_next, Heap.add_floor, m0, g0]) (by exact Nat.zero_lt_succ _) (by simp [Heap.q_blk, Heap.q_next, Heap.q_floor, Heap.set_blk, Heap.set_next, Heap.set_floor, Heap.add_blk, Heap.add_next, Heap.add_floor, f0]) h hlt (by simp only [Bool.false_eq_true, if_false]; omega) fun z' H' w1 w2 w3 w4 w5 w6 => Stp.normal.2 ⟨hlt, false, z', rfl, ?_, w1, fun l hl => ?_, Nat.lt_trans hnx w5, ?_, ?_⟩
            · rw [t1]
              simp only [Bool.false_eq_true, if_false] at w2 ⊢
              exact w2
            · rcases w3 l hl with g | g
              · exact hcl l g
              · have : H.next < l := g
                omega
            · exact (w4 H3.next hnx (fun g => hcl _ g rfl) y5).trans (by simp [Heap.q_blk, Heap.q_next, Heap.q_floor, Heap.set_blk, Heap.set_next, Heap.set_floor, Heap.add_blk, Heap.add_next, Heap.add_floor, hnx, hbx])
            · refine ⟨fun g => (by cases g), fun ⟨a, ha, g⟩ => ?_⟩
              rw [t1] at ha
              rcases List.mem_append.1 ha with ha | ha
              · exact absurd g (hno a ha)
              · rw [List.mem_singleton] at ha; subst ha; exact absurd g hb
      · simp only [ferry_ferryref09_Block_l1]
        rw [take_all (by omega)] at hI hdn
        cases dn with
        | true =>
          simp only [if_true] at hI
          (repeat' (first | (simp only [wp, extractV, exists_eq_left', if_true, if_false, ite_true, ite_false, reduceIte, Nat.reduceAdd, Nat.reduceLT, Nat.reduceLeDiff, Nat.reduceEqDiff, g0, h.s.len, List.length_map, ltF hlt, ferry_ferryref09_Block_j1, hz, f0, g1, z1, tupV]) | (with_reducible refine Run.gC ?_ ?_ <;> intro hb <;> try simp only [hb]) | (with_reducible refine Run.gG ?_ ?_ <;> intro hb <;> try simp only [hb]) | (with_reducible refine Run.gQ ?_ ?_ <;> intro hb <;> try simp only [hb])))
          obtain ⟨x9, y9, z9, q19, o9, k9⟩ := (hI).tab
          rw [hz] at q19
          cases q19
          obtain ⟨a', b', c', s1, s2⟩ := o9.show1 (K' := (H.set 1 ⟨3, [[x3, y', c']]⟩)) (hI).wp hok' (fun k' b' hk' hb' => by
            have : 2 ≤ k' ∧ k' ≠ H1.next := k9 k' hk'
            rw [Heap.set_blk, if_neg (by omega)]
            exact hb') true
          exact ⟨_, thawV_tup (mapM2 s1 (thaw2_int _ _ _ _)), .inl ⟨hok, ⟨inOk_iff.2 hin, hnb⟩, _, _, _, rfl, s2⟩⟩
        | false =>
          simp only [Bool.false_eq_true, if_false] at hI
          (repeat' (first | (simp only [wp, extractV, exists_eq_left', if_true, if_false, ite_true, ite_false, reduceIte, Nat.reduceAdd, Nat.reduceLT, Nat.reduceLeDiff, Nat.reduceEqDiff, g0, h.s.len, List.length_map, ltF hlt, hz, hbx, tm_len, tm_take]) | (with_reducible refine Run.gC ?_ ?_ <;> intro hb <;> try simp only [hb]) | (with_reducible refine Run.gG ?_ ?_ <;> intro hb <;> try simp only [hb]) | (with_reducible refine Run.gQ ?_ ?_ <;> intro hb <;> try simp only [hb])))
          refine (Run.slice (n := 0)).2 ⟨[tmRow ⟨(k : Int), d⟩], rfl, ?_⟩
          refine (hI.appT hz ⟨(k : Int), d⟩ fun oz => Run.app (items := [tmRow ⟨(k : Int), d⟩]) (by show H.floor ≤ H.next + 1; omega) oz (by simp [itemsV, Heap.add_blk]) ?_).mono fun z' H5 ⟨w1, w2, w3, w4, w5, w6, w7⟩ => ?_
          · simp only [List.length_map, List.length_cons, List.length_nil]; unfold room; omega
          have hno : ∀ a ∈ t.ts, ¬ before ⟨(k : Int), d⟩ a := fun a ha hb => by have := hdn.2 ⟨a, ha, hb⟩; cases this
          have ee : insT ⟨(k : Int), d⟩ t.ts = t.ts ++ [(⟨(k : Int), d⟩ : Tm)] := by
            have := insT_none (m := []) hno
            rwa [List.append_nil] at this
          have v3 : H5.floor = 0 := w3.trans f0
          have v1 : H5.blk 1 = some ⟨3, [[.nils, .nils, .nils]]⟩ := (w6 1 (by omega) hc1).trans g1
          rw [← ee] at w7
          (repeat' (first | (simp only [wp, extractV, exists_eq_left', if_true, if_false, ite_true, ite_false, reduceIte, Nat.reduceAdd, Nat.reduceLT, Nat.reduceLeDiff, Nat.reduceEqDiff, w1, w2, v3, v1, z1, ferry_ferryref09_Block_j1, tupV]) | (with_reducible refine Run.gC ?_ ?_ <;> intro hb <;> try simp only [hb]) | (with_reducible refine Run.gG ?_ ?_ <;> intro hb <;> try simp only [hb]) | (with_reducible refine Run.gQ ?_ ?_ <;> intro hb <;> try simp only [hb])))
          obtain ⟨x9, y9, z9, q19, o9, k9⟩ := (w7).tab
          rw [Heap.set_blk, if_pos rfl] at q19
          cases q19
          obtain ⟨a', b', c', s1, s2⟩ := o9.show1 (K' := ((H5.set H1.next ⟨3, [[x3, y', z']]⟩).set 1 ⟨3, [[x3, y', z']]⟩)) (w7).wp hok' (fun k' b' hk' hb' => by
            have : 2 ≤ k' ∧ k' ≠ H1.next := k9 k' hk'
            rw [Heap.set_blk, if_neg (by omega)]
            exact hb') true
          exact ⟨_, thawV_tup (mapM2 s1 (thaw2_int _ _ _ _)), .inl ⟨hok, ⟨inOk_iff.2 hin, hnb⟩, _, _, _, rfl, s2⟩⟩
    · (repeat' (first | (simp only [wp, extractV, exists_eq_left', if_true, if_false, ite_true, ite_false, reduceIte, Nat.reduceAdd, Nat.reduceLT, Nat.reduceLeDiff, Nat.reduceEqDiff, q2, e3, oy.cells, p2, p3, p4', hgs, p7, z2, z3, d1, z1, Heap.set_set, List.set_set, decide_eq_false hd, tupV, ferry_ferryref09_Block_j1]) | (with_reducible refine Run.gC ?_ ?_ <;> intro hb <;> try simp only [hb]) | (with_reducible refine Run.gG ?_ ?_ <;> intro hb <;> try simp only [hb]) | (with_reducible refine Run.gQ ?_ ?_ <;> intro hb <;> try simp only [hb])))
      rw [← hrow']
      have eb : Tab.block t k w o d = ⟨setP t.ps (k : Int) (blockP w o), t.q.filter (· ≠ (k : Int)), t.ts⟩ := by unfold Tab.block; rw [if_neg hd]
      rw [eb] at hok' ⊢
      obtain ⟨x9, y9, z9, q19, o9, k9⟩ := (i3).tab
      rw [Heap.set_blk, if_neg z2, Heap.set_blk, if_pos rfl] at q19
      cases q19
      obtain ⟨a', b', c', s1, s2⟩ := o9.show1 (K' := (((H3.set H1.next ⟨3, [[x3, y', z3']]⟩).set lx ⟨B.sz, B.rows.set k (prRow (blockP w o t.ps[k]))⟩).set 1 ⟨3, [[x3, y', z3']]⟩)) (i3).wp hok' (fun k' b' hk' hb' => by
        have : 2 ≤ k' ∧ k' ≠ H1.next := k9 k' hk'
        rw [Heap.set_blk, if_neg (by omega)]
        exact hb') true
      exact ⟨_, thawV_tup (mapM2 s1 (thaw2_int _ _ _ _)), .inl ⟨hok, ⟨inOk_iff.2 hin, hnb⟩, _, _, _, rfl, s2⟩⟩
  · (repeat' (first | (simp only [wp, extractV, exists_eq_left', if_true, if_false, ite_true, ite_false, reduceIte, Nat.reduceAdd, Nat.reduceLT, Nat.reduceLeDiff, Nat.reduceEqDiff, ref_good_spec _ h, decide_eq_true hok, isIn_spec _ h, decide_eq_true hin, s1, c1, c2, c3, c4, c5]) | (with_reducible refine Run.gC ?_ ?_ <;> intro hb <;> try simp only [hb]) | (with_reducible refine Run.gG ?_ ?_ <;> intro hb <;> try simp only [hb]) | (with_reducible refine Run.gQ ?_ ?_ <;> intro hb <;> try simp only [hb])))
    refine (rcopied_spec _ h sm (by exact Nat.zero_le _)).mono fun v H1 ⟨a, b, c, ev, o1, f, ll⟩ => ?_
    subst ev
    have i1 := InB.start o1 f (by exact Nat.zero_le _) ll h.wp
    have n1 : 2 ≤ H1.next := f.next
    have e1 : H1.floor = 0 := f.floor
    have z0 : ¬ 0 = H1.next := by omega
    have z1 : ¬ 1 = H1.next := by omega
    have c0 : H1.blk 0 = some ⟨3, [[x, y, z]]⟩ := (f.old 0 (by exact Nat.zero_lt_succ _) id).trans rfl
    have b1 : H1.blk 1 = some ⟨3, [[.nils, .nils, .nils]]⟩ := (f.old 1 (by exact Nat.lt_succ_self 1) id).trans rfl
    (repeat' (first | (simp only [wp, extractV, exists_eq_left', if_true, if_false, ite_true, ite_false, reduceIte, Nat.reduceAdd, Nat.reduceLT, Nat.reduceLeDiff, Nat.reduceEqDiff, e1, c0, z0]) | (with_reducible refine Run.gC ?_ ?_ <;> intro hb <;> try simp only [hb]) | (with_reducible refine Run.gG ?_ ?_ <;> intro hb <;> try simp only [hb]) | (with_reducible refine Run.gQ ?_ ?_ <;> intro hb <;> try simp only [hb])))
    refine (out_spec _ h.q few.2.1 k (by simp only [Heap.set_floor, Heap.set_next, Heap.add_floor, Heap.add_next]; omega)).mono fun y' H3 ⟨oy, fy, ly⟩ => ?_
    obtain ⟨x3, y3, z3', q1, q2, i2⟩ := i1.setQ fy oy ly
    have e3 : H3.floor = 0 := fy.floor.trans e1
    have n3 : H1.next + 1 ≤ H3.next := fy.next
    have d0 : H3.blk 0 = some ⟨3, [[x, y, z]]⟩ := (fy.old 0 (by show 0 < H1.next + 1; omega) id).trans (by rw [Heap.set_blk, if_neg z0, Heap.add_blk, if_neg z0]; exact c0)
    have d1 : H3.blk 1 = some ⟨3, [[.nils, .nils, .nils]]⟩ := (fy.old 1 (by show 1 < H1.next + 1; omega) id).trans (by rw [Heap.set_blk, if_neg z1, Heap.add_blk, if_neg z1]; exact b1)
    obtain ⟨xx, yy, zz, lx, B, p1, p2, p3, p4, p5, p6, p7, p8, p9, put⟩ := i2.proc (p := k) hk
    rw [Heap.set_blk, if_pos rfl] at p1
    cases p1
    rw [Heap.set_blk, if_neg p7] at p3
    have p4' : B.rows[k]? = some (prRow t.ps[k]) := p4
    rw [hrow] at p4'
    have hgs : ∀ r, (B.rows.set k r)[k]? = some r := fun r => List.getElem?_set_self p5
    have z2 : ¬ H1.next = lx := fun e => p7 e.symm
    have z3 : ¬ 1 = lx := by have : 2 ≤ lx := p8; omega
    have i3 := put (blockP w o) (show Wp (blockP w o t.ps[k]) from hwk)
    have y0 : ¬ 0 = lx := by have : 2 ≤ lx := p8; omega
    by_cases hd : 0 ≤ d
    · (repeat' (first | (simp only [wp, extractV, exists_eq_left', if_true, if_false, ite_true, ite_false, reduceIte, Nat.reduceAdd, Nat.reduceLT, Nat.reduceLeDiff, Nat.reduceEqDiff, q2, e3, oy.cells, p2, p3, p4', hgs, p7, z2, z3, d1, z1, Heap.set_set, List.set_set, decide_eq_true hd, buildV, fill, putRow]) | (with_reducible refine Run.gC ?_ ?_ <;> intro hb <;> try simp only [hb]) | (with_reducible refine Run.gG ?_ ?_ <;> intro hb <;> try simp only [hb]) | (with_reducible refine Run.gQ ?_ ?_ <;> intro hb <;> try simp only [hb])))
      rw [← hrow']
      have y4 : ¬ H1.next = H3.next := by omega
      have y5 : ¬ H3.next = H1.next := by omega
      have y6 : ¬ 0 = H3.next := by omega
      have y7 : ¬ H3.next = lx := fun e => by have : lx < H3.next := p9; omega
      (repeat' (first | (simp only [wp, extractV, exists_eq_left', if_true, if_false, ite_true, ite_false, reduceIte, Nat.reduceAdd, Nat.reduceLT, Nat.reduceLeDiff, Nat.reduceEqDiff, y4, y5]) | (with_reducible refine Run.gC ?_ ?_ <;> intro hb <;> try simp only [hb]) | (with_reducible refine Run.gG ?_ ?_ <;> intro hb <;> try simp only [hb]) | (with_reducible refine Run.gQ ?_ ?_ <;> intro hb <;> try simp only [hb])))
      have i4 := i3.frame (Frame.loc ⟨2, [[.int .i64 0, .int .i64 0]]⟩ ⟨2, [tmRow ⟨(k : Int), d⟩]⟩) fun _ _ g => g.elim
      obtain ⟨x5, y5', z5, q5, o5, k5⟩ := i4.tab
      have e5 : some (⟨3, [[x5, y5', z5]]⟩ : Blk) = some ⟨3, [[x3, y', z3']]⟩ := q5.symm.trans (by
        show (if H1.next = H3.next then _ else if H1.next = H3.next then _ else if H1.next = lx then _ else if H1.next = H1.next then _ else _) = _
        rw [if_neg y4, if_neg y4, if_neg z2, if_pos rfl])
      cases e5
      have i5 := i4.put (x := x3) (y := y') (z := .nils) (v := ⟨setP t.ps (k : Int) (blockP w o), t.q.filter (· ≠ (k : Int)), []⟩) ⟨o5.p, o5.q, Own.nils _ _, o5.pq, fun _ _ g => (by cases g), fun _ _ g => (by cases g)⟩ (fun j g => by
        rcases g with g | g | g
        · exact k5 j (.inl g)
        · exact k5 j (.inr (.inl g))
        · cases g) i4.wp
      have hxr : right t.ps.length ⟨(k : Int), d⟩ := right_at hq hd (by have := hnb.2.2.2; omega)
      have hset := insT_set hok.ts hnt hxr
      have eb : Tab.block t k w o d = ⟨setP t.ps (k : Int) (blockP w o), t.q.filter (· ≠ (k : Int)), insT ⟨(k : Int), d⟩ t.ts⟩ := by unfold Tab.block; rw [if_pos hd, hset]
      rw [eb] at hok' ⊢
      refine Run.loop (N := t.ts.length) (fun i s H => ∃ (dn : Bool) (c' : V), s = [.bool dn, .int .i64 (i : Nat)] ∧ InB _ H H1.next ⟨setP t.ps (k : Int) (blockP w o), t.q.filter (· ≠ (k : Int)), if dn then insT ⟨(k : Int), d⟩ (t.ts.take i) else t.ts.take i⟩ ∧
        H.blk H1.next = some ⟨3, [[x3, y', c']]⟩ ∧ (∀ l, loc c' = some l → l ≠ H3.next) ∧ H3.next < H.next ∧ H.blk H3.next = some ⟨2, [tmRow ⟨(k : Int), d⟩]⟩ ∧ (dn = true ↔ ∃ a ∈ t.ts.take i, before ⟨(k : Int), d⟩ a))
        ⟨false, .nils, rfl, i5, by rw [Heap.set_blk, if_pos rfl], (fun l g => by cases g), by exact Nat.lt_succ_self _, by rw [Heap.set_blk, if_neg y5, Heap.set_blk, if_pos rfl]; rfl, by simp⟩ ?_
      rintro i s H hi ⟨dn, c', rfl, hI, hz, hcl, hnx, hbx, hdn⟩
      have f0 : H.floor = 0 := hI.fl
      have g0 : H.blk 0 = some ⟨3, [[x, y, z]]⟩ := (hI.old 0 (by exact Nat.zero_lt_succ _)).trans rfl
      have g1 : H.blk 1 = some ⟨3, [[.nils, .nils, .nils]]⟩ := (hI.old 1 (by exact Nat.lt_succ_self 1)).trans rfl
      have m0 : 0 < H.next := by omega
      have m1 : H1.next < H.next := hI.ln
      have mx : ¬ H3.next = H.next := by omega
      have hc2 : ∀ l, loc c' = some l → 2 ≤ l ∧ l ≠ H1.next := fun l g => by
        obtain ⟨x7, y7, z7, q7, _, k7⟩ := hI.tab
        rw [hz] at q7
        cases q7
        exact k7 l (.inr (.inr g))
      have hc0 : loc c' ≠ some 0 := fun g => by have := (hc2 0 g).1; omega
      have hc1 : loc c' ≠ some 1 := fun g => by have := (hc2 1 g).1; omega
      by_cases hlt : i < t.ts.length
      · have h2 := h.s.idx (k := .i64) (i := i) (by simpa using hlt)
        simp only [List.getElem_map] at h2
        have ea := ahead_spec (G := G) (n + 2) ⟨(k : Int), d⟩ t.ts[i]
        have t1 := take_snoc hlt
        have tl : (t.ts.take i).length ≤ 8 := by rw [List.length_take]; omega
        have il := insT_len ⟨(k : Int), d⟩ (t.ts.take i)
        simp only [ferry_ferryref09_Block_l1]
        cases dn with
        | true =>
          have hd' := hdn.1 rfl
          (repeat' (first | (simp only [wp, extractV, exists_eq_left', if_true, if_false, ite_true, ite_false, reduceIte, Nat.reduceAdd, Nat.reduceLT, Nat.reduceLeDiff, Nat.reduceEqDiff, g0, h.s.len, List.length_map, ltT hlt]) | (with_reducible refine Run.gC ?_ ?_ <;> intro hb <;> try simp only [hb]) | (with_reducible refine Run.gG ?_ ?_ <;> intro hb <;> try simp only [hb]) | (with_reducible refine Run.gQ ?_ ?_ <;> intro hb <;> try simp only [hb])))
          refine rblock_j2 (xa := x3) (ya := y') (c' := c') (hI.frame (Frame.q _ (fun _ => False)) fun _ _ g => g.elim) (by simp [Heap.q_blk, Heap.q_next, Heap.q_floor, Heap.set_blk, Heap.set_next, Heap.set_floor, Heap.add_blk, Heap.add_next, Heap.add_floor, m1, hz]) (by simp [Heap.q_blk, Heap.q_next, Heap.q_floor, Heap.set_blk, Heap.set_next, Heap.set_floor, Heap.add_blk, Heap.add_next, Heap.add_floor, m0, g0]) (by exact Nat.zero_lt_succ _) (by simp [Heap.q_blk, Heap.q_next, Heap.q_floor, Heap.set_blk, Heap.set_next, Heap.set_floor, Heap.add_blk, Heap.add_next, Heap.add_floor, f0]) h hlt (by simp only [if_true]; omega) fun z' H' w1 w2 w3 w4 w5 w6 => Stp.normal.2 ⟨hlt, true, z', rfl, ?_, w1, fun l hl => ?_, Nat.lt_trans hnx w5, ?_, ?_⟩
          · rw [t1]
            simp only [if_true] at w2 ⊢
            rw [insT_done hd']
            exact w2
          · rcases w3 l hl with g | g
            · exact hcl l g
            · have : H.next < l := g
              omega
          · exact (w4 H3.next hnx (fun g => hcl _ g rfl) y5).trans (by simp [Heap.q_blk, Heap.q_next, Heap.q_floor, Heap.set_blk, Heap.set_next, Heap.set_floor, Heap.add_blk, Heap.add_next, Heap.add_floor, hnx, hbx])
          · refine ⟨fun _ => ?_, fun _ => rfl⟩
            obtain ⟨a, ha, hb⟩ := hd'
            exact ⟨a, by rw [t1]; exact List.mem_append_left _ ha, hb⟩
        | false =>
          have hno : ∀ a ∈ t.ts.take i, ¬ before ⟨(k : Int), d⟩ a := fun a ha hb => by have := hdn.2 ⟨a, ha, hb⟩; cases this
          by_cases hb : before ⟨(k : Int), d⟩ t.ts[i]
          · (repeat' (first | (simp only [wp, extractV, exists_eq_left', if_true, if_false, ite_true, ite_false, reduceIte, Nat.reduceAdd, Nat.reduceLT, Nat.reduceLeDiff, Nat.reduceEqDiff, g0, h.s.len, List.length_map, ltT hlt, h2, tm_len, tm_take, hbx, ea, decide_eq_true hb, m0, m1, hnx, hz]) | (with_reducible refine Run.gC ?_ ?_ <;> intro hb <;> try simp only [hb]) | (with_reducible refine Run.gG ?_ ?_ <;> intro hb <;> try simp only [hb]) | (with_reducible refine Run.gQ ?_ ?_ <;> intro hb <;> try simp only [hb])))
            refine (Run.slice (n := 0)).2 ⟨[tmRow ⟨(k : Int), d⟩], rfl, ?_⟩
            refine ((hI.frame (Frame.q _ (fun _ => False)) fun _ _ g => g.elim).appT (x := x3) (y := y') (z := c') (by simp [Heap.q_blk, Heap.q_next, Heap.q_floor, Heap.set_blk, Heap.set_next, Heap.set_floor, Heap.add_blk, Heap.add_next, Heap.add_floor, m1, hz]) ⟨(k : Int), d⟩ fun oz => Run.app (items := [tmRow ⟨(k : Int), d⟩]) (by show H.floor ≤ H.next + 1; omega) oz (by simp [itemsV, Heap.add_blk]) ?_).mono fun z' H5 ⟨w1, w2, w3, w4, w5, w6, w7⟩ => ?_
            · simp only [List.length_map, List.length_cons, List.length_nil, Bool.false_eq_true, if_false]; unfold room; omega
            have v3 : H5.floor = 0 := w3.trans (by simp [Heap.q_blk, Heap.q_next, Heap.q_floor, Heap.set_blk, Heap.set_next, Heap.set_floor, Heap.add_blk, Heap.add_next, Heap.add_floor, f0])
            (repeat' (first | (simp only [wp, extractV, exists_eq_left', if_true, if_false, ite_true, ite_false, reduceIte, Nat.reduceAdd, Nat.reduceLT, Nat.reduceLeDiff, Nat.reduceEqDiff, w1, w2, v3]) | (with_reducible refine Run.gC ?_ ?_ <;> intro hb <;> try simp only [hb]) | (with_reducible refine Run.gG ?_ ?_ <;> intro hb <;> try simp only [hb]) | (with_reducible refine Run.gQ ?_ ?_ <;> intro hb <;> try simp only [hb])))
            have w4' : H.next < H5.next := w4
            refine rblock_j2 w7 ((Heap.set_blk _ _ _).trans (if_pos rfl)) (by rw [Heap.set_blk, if_neg z0]; exact (w6 0 m0 hc0).trans (by simp [Heap.q_blk, Heap.q_next, Heap.q_floor, Heap.set_blk, Heap.set_next, Heap.set_floor, Heap.add_blk, Heap.add_next, Heap.add_floor, m0, g0])) (by exact Nat.zero_lt_succ _) v3 h hlt (by simp only [List.length_append, List.length_singleton, Bool.false_eq_true, if_false]; omega) fun z2' H' r1 r2 r3 r4 r5 r6 => Stp.normal.2 ⟨hlt, true, z2', rfl, ?_, r1, fun l hl => ?_, ?_, ?_, ?_⟩
            · have ee : insT ⟨(k : Int), d⟩ (t.ts.take (i + 1)) = (t.ts.take i ++ [(⟨(k : Int), d⟩ : Tm)]) ++ [t.ts[i]] := by
                rw [t1, insT_none hno]
                simp [insT, hb]
              simp only [Bool.false_eq_true, if_false, if_true] at r2 ⊢
              rw [ee]
              exact r2
            · have u1 : loc z' = some l ∨ H5.next < l := r3 l hl
              have u2 : ∀ j, loc z' = some j → loc c' = some j ∨ H.next < j := w5
              rcases u1 with g | g
              · rcases u2 l g with g | g
                · exact hcl l g
                · omega
              · omega
            · have : H5.next < H'.next := r5
              omega
            · have u2 : ∀ j, loc z' = some j → loc c' = some j ∨ H.next < j := w5
              refine (r4 H3.next (by show H3.next < H5.next; omega) (fun g => ?_) y5).trans ?_
              · rcases u2 _ g with g | g
                · exact hcl _ g rfl
                · omega
              · rw [Heap.set_blk, if_neg y5]
                exact (w6 H3.next hnx (fun g => hcl _ g rfl)).trans (by simp [Heap.q_blk, Heap.q_next, Heap.q_floor, Heap.set_blk, Heap.set_next, Heap.set_floor, Heap.add_blk, Heap.add_next, Heap.add_floor, hnx, hbx])
            · exact ⟨fun _ => ⟨t.ts[i], by rw [t1]; exact List.mem_append_right _ (List.mem_singleton.2 rfl), hb⟩, fun _ => rfl⟩
          · (repeat' (first | (simp only [wp, extractV, exists_eq_left', if_true, if_false, ite_true, ite_false, reduceIte, Nat.reduceAdd, Nat.reduceLT, Nat.reduceLeDiff, Nat.reduceEqDiff, g0, h.s.len, List.length_map, ltT hlt, h2, tm_len, tm_take, hbx, ea, decide_eq_false hb]) | (with_reducible refine Run.gC ?_ ?_ <;> intro hb <;> try simp only [hb]) | (with_reducible refine Run.gG ?_ ?_ <;> intro hb <;> try simp only [hb]) | (with_reducible refine Run.gQ ?_ ?_ <;> intro hb <;> try simp only [hb])))
            refine rblock_j2 (xa := x3) (ya := y') (c' := c') (hI.frame (Frame.q _ (fun _ => False)) fun _ _ g => g.elim) (by simp [Heap.q_blk, Heap.q_next, Heap.q_floor, Heap.set_blk, Heap.set_next, Heap.set_floor, Heap.add_blk, Heap.add_next, Heap.add_floor, m1, hz]) (by simp [Heap.q_blk, Heap.q_next, Heap.q_floor, Heap.set_blk, Heap.set_next, Heap.set_floor, Heap.add_blk, Heap.add_next, Heap.add_floor, m0, g0]) (by exact Nat.zero_lt_succ _) (by simp [Heap.q_blk, Heap.q_next, Heap.q_floor, Heap.set_blk, Heap.set_next, Heap.set_floor, Heap.add_blk, Heap.add_next, Heap.add_floor, f0]) h hlt (by simp only [Bool.false_eq_true, if_false]; omega) fun z' H' w1 w2 w3 w4 w5 w6 => Stp.normal.2 ⟨hlt, false, z', rfl, ?_, w1, fun l hl => ?_, Nat.lt_trans hnx w5, ?_, ?_⟩
            · rw [t1]
              simp only [Bool.false_eq_true, if_false] at w2 ⊢
              exact w2
            · rcases w3 l hl with g | g
              · exact hcl l g
              · have : H.next < l := g
                omega
            · exact (w4 H3.next hnx (fun g => hcl _ g rfl) y5).trans (by simp [Heap.q_blk, Heap.q_next, Heap.q_floor, Heap.set_blk, Heap.set_next, Heap.set_floor, Heap.add_blk, Heap.add_next, Heap.add_floor, hnx, hbx])
            · refine ⟨fun g => (by cases g), fun ⟨a, ha, g⟩ => ?_⟩
              rw [t1] at ha
              rcases List.mem_append.1 ha with ha | ha
              · exact absurd g (hno a ha)
              · rw [List.mem_singleton] at ha; subst ha; exact absurd g hb
      · simp only [ferry_ferryref09_Block_l1]
        rw [take_all (by omega)] at hI hdn
        cases dn with
        | true =>
          simp only [if_true] at hI
          (repeat' (first | (simp only [wp, extractV, exists_eq_left', if_true, if_false, ite_true, ite_false, reduceIte, Nat.reduceAdd, Nat.reduceLT, Nat.reduceLeDiff, Nat.reduceEqDiff, g0, h.s.len, List.length_map, ltF hlt, ferry_ferryref09_Block_j1, hz, f0, g1, z1, tupV]) | (with_reducible refine Run.gC ?_ ?_ <;> intro hb <;> try simp only [hb]) | (with_reducible refine Run.gG ?_ ?_ <;> intro hb <;> try simp only [hb]) | (with_reducible refine Run.gQ ?_ ?_ <;> intro hb <;> try simp only [hb])))
          obtain ⟨x9, y9, z9, q19, o9, k9⟩ := (hI).tab
          rw [hz] at q19
          cases q19
          obtain ⟨a', b', c', s1, s2⟩ := o9.show1 (K' := (H.set 1 ⟨3, [[x3, y', c']]⟩)) (hI).wp hok' (fun k' b' hk' hb' => by
            have : 2 ≤ k' ∧ k' ≠ H1.next := k9 k' hk'
            rw [Heap.set_blk, if_neg (by omega)]
            exact hb') true
          exact ⟨_, thawV_tup (mapM2 s1 (thaw2_int _ _ _ _)), .inl ⟨hok, ⟨inOk_iff.2 hin, hnb⟩, _, _, _, rfl, s2⟩⟩
        | false =>
          simp only [Bool.false_eq_true, if_false] at hI
          (repeat' (first | (simp only [wp, extractV, exists_eq_left', if_true, if_false, ite_true, ite_false, reduceIte, Nat.reduceAdd, Nat.reduceLT, Nat.reduceLeDiff, Nat.reduceEqDiff, g0, h.s.len, List.length_map, ltF hlt, hz, hbx, tm_len, tm_take]) | (with_reducible refine Run.gC ?_ ?_ <;> intro hb <;> try simp only [hb]) | (with_reducible refine Run.gG ?_ ?_ <;> intro hb <;> try simp only [hb]) | (with_reducible refine Run.gQ ?_ ?_ <;> intro hb <;> try simp only [hb])))
          refine (Run.slice (n := 0)).2 ⟨[tmRow ⟨(k : Int), d⟩], rfl, ?_⟩
          refine (hI.appT hz ⟨(k : Int), d⟩ fun oz => Run.app (items := [tmRow ⟨(k : Int), d⟩]) (by show H.floor ≤ H.next + 1; omega) oz (by simp [itemsV, Heap.add_blk]) ?_).mono fun z' H5 ⟨w1, w2, w3, w4, w5, w6, w7⟩ => ?_
          · simp only [List.length_map, List.length_cons, List.length_nil]; unfold room; omega
          have hno : ∀ a ∈ t.ts, ¬ before ⟨(k : Int), d⟩ a := fun a ha hb => by have := hdn.2 ⟨a, ha, hb⟩; cases this
          have ee : insT ⟨(k : Int), d⟩ t.ts = t.ts ++ [(⟨(k : Int), d⟩ : Tm)] := by
            have := insT_none (m := []) hno
            rwa [List.append_nil] at this
          have v3 : H5.floor = 0 := w3.trans f0
          have v1 : H5.blk 1 = some ⟨3, [[.nils, .nils, .nils]]⟩ := (w6 1 (by omega) hc1).trans g1
          rw [← ee] at w7
          (repeat' (first | (simp only [wp, extractV, exists_eq_left', if_true, if_false, ite_true, ite_false, reduceIte, Nat.reduceAdd, Nat.reduceLT, Nat.reduceLeDiff, Nat.reduceEqDiff, w1, w2, v3, v1, z1, ferry_ferryref09_Block_j1, tupV]) | (with_reducible refine Run.gC ?_ ?_ <;> intro hb <;> try simp only [hb]) | (with_reducible refine Run.gG ?_ ?_ <;> intro hb <;> try simp only [hb]) | (with_reducible refine Run.gQ ?_ ?_ <;> intro hb <;> try simp only [hb])))
          obtain ⟨x9, y9, z9, q19, o9, k9⟩ := (w7).tab
          rw [Heap.set_blk, if_pos rfl] at q19
          cases q19
          obtain ⟨a', b', c', s1, s2⟩ := o9.show1 (K' := ((H5.set H1.next ⟨3, [[x3, y', z']]⟩).set 1 ⟨3, [[x3, y', z']]⟩)) (w7).wp hok' (fun k' b' hk' hb' => by
            have : 2 ≤ k' ∧ k' ≠ H1.next := k9 k' hk'
            rw [Heap.set_blk, if_neg (by omega)]
            exact hb') true
          exact ⟨_, thawV_tup (mapM2 s1 (thaw2_int _ _ _ _)), .inl ⟨hok, ⟨inOk_iff.2 hin, hnb⟩, _, _, _, rfl, s2⟩⟩
    · (repeat' (first | (simp only [wp, extractV, exists_eq_left', if_true, if_false, ite_true, ite_false, reduceIte, Nat.reduceAdd, Nat.reduceLT, Nat.reduceLeDiff, Nat.reduceEqDiff, q2, e3, oy.cells, p2, p3, p4', hgs, p7, z2, z3, d1, z1, Heap.set_set, List.set_set, decide_eq_false hd, tupV, ferry_ferryref09_Block_j1]) | (with_reducible refine Run.gC ?_ ?_ <;> intro hb <;> try simp only [hb]) | (with_reducible refine Run.gG ?_ ?_ <;> intro hb <;> try simp only [hb]) | (with_reducible refine Run.gQ ?_ ?_ <;> intro hb <;> try simp only [hb])))
      rw [← hrow']
      have eb : Tab.block t k w o d = ⟨setP t.ps (k : Int) (blockP w o), t.q.filter (· ≠ (k : Int)), t.ts⟩ := by unfold Tab.block; rw [if_neg hd]
      rw [eb] at hok' ⊢
      obtain ⟨x9, y9, z9, q19, o9, k9⟩ := (i3).tab
      rw [Heap.set_blk, if_neg z2, Heap.set_blk, if_pos rfl] at q19
      cases q19
      obtain ⟨a', b', c', s1, s2⟩ := o9.show1 (K' := (((H3.set H1.next ⟨3, [[x3, y', z3']]⟩).set lx ⟨B.sz, B.rows.set k (prRow (blockP w o t.ps[k]))⟩).set 1 ⟨3, [[x3, y', z3']]⟩)) (i3).wp hok' (fun k' b' hk' hb' => by
        have : 2 ≤ k' ∧ k' ≠ H1.next := k9 k' hk'
        rw [Heap.set_blk, if_neg (by omega)]
        exact hb') true
      exact ⟨_, thawV_tup (mapM2 s1 (thaw2_int _ _ _ _)), .inl ⟨hok, ⟨inOk_iff.2 hin, hnb⟩, _, _, _, rfl, s2⟩⟩
end Go.Fv.Tr
