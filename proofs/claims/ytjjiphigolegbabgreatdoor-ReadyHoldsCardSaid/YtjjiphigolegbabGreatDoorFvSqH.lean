/-
  What the functions of the layer 9 answer: Block, Wake. By an AI agent; no person has read it.
-/
import Derived.Test.YtjjiphigolegbabGreatDoorFvW7
import Derived.Test.YtjjiphigolegbabGreatDoorFvTr12
set_option linter.unusedVariables false
set_option linter.unusedSimpArgs false
set_option linter.unusedSectionVars false
/-! What the functions of the layer 9 answer: Block, Wake. -/
namespace Go.Fv.Tr
open Go Go.Fv Go.Fv.Pl Go.Proofs
set_option linter.unusedSimpArgs false
set_option linter.unusedVariables false
variable {G : Nat → Option (List V)}

theorem row16 {p : Pr} (h : Wp p) : ∃ a0 a1 a2 a3 a4 a5 a6 a7 a8 a9 a10 a11 a12 a13 a14 a15 : Int, p.regs = [a0, a1, a2, a3, a4, a5, a6, a7, a8, a9, a10, a11, a12, a13, a14, a15] ∧
    prRow p = [.int .u32 a0, .int .u32 a1, .int .u32 a2, .int .u32 a3, .int .u32 a4, .int .u32 a5, .int .u32 a6, .int .u32 a7, .int .u32 a8, .int .u32 a9, .int .u32 a10, .int .u32 a11, .int .u32 a12, .int .u32 a13, .int .u32 a14, .int .u32 a15,
      .int .u32 p.pc, .int .i64 p.state, .int .i64 p.prio, .int .i64 p.wait, .int .i64 p.obj] := by
  obtain ⟨a0, a1, a2, a3, a4, a5, a6, a7, a8, a9, a10, a11, a12, a13, a14, a15, hr⟩ := len16 h
  exact ⟨_, _, _, _, _, _, _, _, _, _, _, _, _, _, _, _, hr, by unfold prRow; rw [hr]; rfl⟩

theorem sls_thaw {x : V} {sz : Nat} {rows : List (List V)} (h : Sls x sz rows) (H : Heap) : thaw true H x = some x := by
  rcases h with rfl | ⟨_, rfl | rfl⟩ <;> simp [thaw, V.flat, V.closed]
/-- A table whose timers are shown, the rest its own: how it is shown at the end. -/
theorem OwnTab.show3 {H K' : Heap} {x y z z' : V} {u : Tab} {ts : List Tm} (h : OwnTab H x y z u) (hw : ∀ p ∈ u.ps, Wp p) (hz : Sls z' 2 (ts.map tmRow)) (hb : TabOk ⟨u.ps, u.q, ts⟩)
    (hK : ∀ k b, (loc x = some k ∨ loc y = some k) → H.blk k = some b → K'.blk k = some b) : ∃ a b, thaw2 true K' (.agg [x, y, z']) = some (.agg [a, b, z']) ∧ IsTab a b z' ⟨u.ps, u.q, ts⟩ := by
  have n1 : ∀ {v : V} {sz : Nat} {rows : List (List V)}, Own H v sz rows → (∀ k, loc v = some k → loc x = some k ∨ loc y = some k) → Own ⟨K'.blk, H.next, H.floor⟩ v sz rows := fun {v sz rows} o hv => by
    rcases o with o | ⟨l, n, c, ex, b, rfl, h1, h2, h3, h4⟩
    · exact .inl o
    · exact .inr ⟨l, n, c, ex, b, rfl, hK _ _ (hv _ rfl) h1, h2, h3, h4⟩
  obtain ⟨a, a1, a2⟩ := (n1 h.p fun k g => .inl g).thaw (flat_pr _) true
  obtain ⟨b, b1, b2⟩ := (n1 h.q fun k g => .inr g).thaw (flat_ir _) true
  have e1 : ∀ v, thaw true K' v = thaw true ⟨K'.blk, H.next, H.floor⟩ v := fun v => mapM_eq (H := ⟨K'.blk, H.next, H.floor⟩) (fun _ => rfl) v
  have e2 : [x, y, z'].mapM (thaw true K') = some [a, b, z'] := by simp [e1, a1, b1, sls_thaw hz]
  exact ⟨a, b, by simp only [thaw2, e2]; rfl, a2, b2, hz, hw, big_of hb⟩

theorem OwnTab.show1 {H K' : Heap} {x y z : V} {u : Tab} (h : OwnTab H x y z u) (hw : ∀ p ∈ u.ps, Wp p) (hb : TabOk u)
    (hK : ∀ k b, (loc x = some k ∨ loc y = some k ∨ loc z = some k) → H.blk k = some b → K'.blk k = some b) (ok : Bool) : ∃ a b c, thaw2 ok K' (.agg [x, y, z]) = some (.agg [a, b, c]) ∧ IsTab a b c u := by
  have n1 : ∀ {v : V} {sz : Nat} {rows : List (List V)}, Own H v sz rows → (∀ k, loc v = some k → loc x = some k ∨ loc y = some k ∨ loc z = some k) → Own ⟨K'.blk, H.next, H.floor⟩ v sz rows := fun {v sz rows} o hv => by
    rcases o with o | ⟨l, n, c, ex, b, rfl, h1, h2, h3, h4⟩
    · exact .inl o
    · exact .inr ⟨l, n, c, ex, b, rfl, hK _ _ (hv _ rfl) h1, h2, h3, h4⟩
  obtain ⟨a, b, c, q1, q2⟩ := thaw2_tab (H := ⟨K'.blk, H.next, H.floor⟩) ⟨n1 h.p fun k g => .inl g, n1 h.q fun k g => .inr (.inl g), n1 h.s fun k g => .inr (.inr g), h.pq, h.ps, h.qs⟩ hw hb ok
  exact ⟨a, b, c, (thaw2_eq (H := ⟨K'.blk, H.next, H.floor⟩) (H' := K') (fun _ => rfl) _).trans q1, q2⟩

set_option maxRecDepth 20000 in
theorem block_spec (hG : Errs G) (n : Nat) {x y z : V} {t : Tab} (h : IsTab x y z t) (p w o d : Int) :
    ∃ r, callV (cfg G) (sem (cfg G) (n + 8)) 15 [.agg [x, y, z], .int .i64 p, .int .i64 w, .int .i64 o, .int .i64 d] = M.ret r ∧ Ans t (inOk t p [1] ∧ blkOk w o d) (Tab.block t p w o d) r := by
  refine callV_pureE rfl (by simp [h.closed, cI]) ?_
  rw [ferry_ready_Block_eq]
  simp only [ferry_ready_Block, ferry_ready_Block_j1]
  (repeat' (first | (simp only [wp, extractV, exists_eq_left', if_true, if_false, ite_true, ite_false, reduceIte, Nat.reduceAdd, Nat.reduceLT, Nat.reduceLeDiff, Nat.reduceEqDiff, Run.slice, fillRows, List.replicate_succ, List.replicate_zero]) | (with_reducible refine Run.gC ?_ ?_ <;> intro hb <;> try simp only [hb]) | (with_reducible refine Run.gG ?_ ?_ <;> intro hb <;> try simp only [hb]) | (with_reducible refine Run.gQ ?_ ?_ <;> intro hb <;> try simp only [hb])))
  refine (in_spec hG n h p (w := .imm 1 [[.int .i64 1]]) (ss := [1]) (Sls.imm _ _) (by decide) (Nat.zero_le _) ?_).mono fun v H1 hres => ?_
  · rw [List.mapM_cons, thawV_closed h.closed]
    rfl
  rcases hres with ⟨hok, hin, u, rfl, a, b, c, rfl, o1, f, ll⟩ | ⟨hok, rfl, rfl⟩ | ⟨hok, hin, rfl, rfl⟩
  · have few := ((ROk_iff t).2 hok).few
    have e1 : H1.floor = 0 := f.floor
    have i1 := InB.start o1 f (Nat.zero_le _) ll h.wp
    have n1 : 3 ≤ H1.next := f.next
    have z1 : ¬ 1 = H1.next := by omega
    have b1 : H1.blk 1 = some ⟨3, [[.nils, .nils, .nils]]⟩ := (f.old 1 (by simp [Heap.add_next, Heap.empty_next]) id).trans rfl
    have hin' := hin
    obtain ⟨q, hq, hs⟩ := hin
    have hs1 : q.state = 1 := by simpa using hs
    have hlt0 := at?_lt hq
    obtain ⟨k, rfl⟩ := Int.eq_ofNat_of_zero_le hlt0.1
    have hk : k < t.ps.length := by omega
    by_cases hnb : blkOk w o d
    · have c1 : decide (w < 1) = false := decide_eq_false (by have := hnb.1; omega)
      have c2 : decide (4 < w) = false := decide_eq_false (by have := hnb.1; omega)
      have c3 : decide (o < 0) = false := decide_eq_false (by have := hnb.2.1; omega)
      have c4 : decide (d < -1) = false := decide_eq_false (by have := hnb.2.2.2; omega)
      have c5 : decide (1010000 < d) = false := decide_eq_false (by have := hnb.2.2.2; omega)
      have cs : (w == 1) = true ∧ (o == 0) = true ∧ (d == -1) = false ∨ (w == 1) = false := by
        by_cases hw : w = 1
        · have := hnb.2.2.1 hw
          exact .inl (by simp [hw, this.1, this.2])
        · exact .inr (by simpa using hw)
      obtain ⟨a0, a1, a2, a3, a4, a5, a6, a7, a8, a9, a10, a11, a12, a13, a14, a15, hr, hrow⟩ := row16 (h.wp _ (List.getElem_mem hk))
      have hrow' : prRow (blockP w o t.ps[k]) = [.int .u32 a0, .int .u32 a1, .int .u32 a2, .int .u32 a3, .int .u32 a4, .int .u32 a5, .int .u32 a6, .int .u32 a7, .int .u32 a8, .int .u32 a9, .int .u32 a10, .int .u32 a11, .int .u32 a12, .int .u32 a13, .int .u32 a14, .int .u32 a15,
        .int .u32 t.ps[k].pc, .int .i64 2, .int .i64 t.ps[k].prio, .int .i64 w, .int .i64 o] := by unfold prRow blockP; rw [hr]; rfl
      have hok' := TabOk.block hok hq hs1 hnb
      rcases cs with ⟨s1, s2, s3⟩ | s1
      · (repeat' (first | (simp only [wp, extractV, exists_eq_left', if_true, if_false, ite_true, ite_false, reduceIte, Nat.reduceAdd, Nat.reduceLT, Nat.reduceLeDiff, Nat.reduceEqDiff, e1, s1, s2, s3, c1, c2, c3, c4, c5]) | (with_reducible refine Run.gC ?_ ?_ <;> intro hb <;> try simp only [hb]) | (with_reducible refine Run.gG ?_ ?_ <;> intro hb <;> try simp only [hb]) | (with_reducible refine Run.gQ ?_ ?_ <;> intro hb <;> try simp only [hb])))
        refine (i1.leave (n + 3) (by unfold big; omega) k).mono fun _ H2 ⟨i2, n2⟩ => ?_
        obtain ⟨xx, yy, zz, lx, B, q1, q2, q3, q4, q5, q6, q7, q8, q9, put⟩ := i2.proc (p := k) hk
        have q4' : B.rows[k]? = some (prRow t.ps[k]) := q4
        rw [hrow] at q4'
        have hgs : ∀ r, (B.rows.set k r)[k]? = some r := fun r => List.getElem?_set_self q5
        have z2 : ¬ H1.next = lx := fun e => q7 e.symm
        have z3 : ¬ 1 = lx := by have : 3 ≤ lx := q8; omega
        have e2 : H2.floor = 0 := i2.fl
        have i3 := put (blockP w o) (show Wp (blockP w o t.ps[k]) from h.wp t.ps[k] (List.getElem_mem hk))
        have d1 : H2.blk 1 = some ⟨3, [[.nils, .nils, .nils]]⟩ := (i2.old 1 (by simp [Heap.add_next, Heap.empty_next])).trans rfl
        have k3' : ∀ j, 3 ≤ j → ¬ j = 1 := fun j hj => by omega
        obtain ⟨x3, y3, z3', q10, o3, k3⟩ := i3.tab
        have e3 : x3 = xx ∧ y3 = yy ∧ z3' = zz := by
          rw [Heap.set_blk, if_neg z2, q1] at q10
          cases q10
          exact ⟨rfl, rfl, rfl⟩
        obtain ⟨rfl, rfl, rfl⟩ := e3
        by_cases hd : 0 ≤ d
        · (repeat' (first | (simp only [wp, extractV, exists_eq_left', if_true, if_false, ite_true, ite_false, reduceIte, Nat.reduceAdd, Nat.reduceLT, Nat.reduceLeDiff, Nat.reduceEqDiff, q1, q2, q3, q4', hgs, Heap.set_set, List.set_set, e2, z2, z3, decide_eq_true hd]) | (with_reducible refine Run.gC ?_ ?_ <;> intro hb <;> try simp only [hb]) | (with_reducible refine Run.gG ?_ ?_ <;> intro hb <;> try simp only [hb]) | (with_reducible refine Run.gQ ?_ ?_ <;> intro hb <;> try simp only [hb])))
          rw [← hrow']
          obtain ⟨zi, g1, _, g3⟩ := o3.s.thawV (flat_tm _) true
          refine Run.ans (bs := [zi, .int .i64 k, .int .i64 d]) rfl ?_ (set_spec hG.s n g3 h.big.2.2 k d) fun r hr => ?_
          · rw [List.mapM_cons, show thawV true _ z3' = some zi from g1]
            simp [thawV, thaw, V.flat]
          have hts : TsOk 8 t.ts := by
            have := hok.ts
            have h8 := hok.few
            rw [TsOk_iff] at this ⊢
            exact ⟨fun a ha => by have := this.1 a ha; unfold right at *; omega, this.2⟩
          have hri : right 8 ⟨(k : Int), d⟩ := by
            have := hnb.2.2.2
            have h8 := hok.few
            unfold right; simp only; omega
          rcases hr with ⟨_, _, zs, rfl, sz⟩ | ⟨_, g, _⟩ | ⟨g, _⟩
          · have sz' : Sls zs 2 ((if 0 ≤ d then setT t.ts k d else t.ts).map tmRow) := by rw [if_pos hd]; exact sz
            (repeat' (first | (simp only [wp, extractV, exists_eq_left', if_true, if_false, ite_true, ite_false, reduceIte, Nat.reduceAdd, Nat.reduceLT, Nat.reduceLeDiff, Nat.reduceEqDiff, q1, z2, z3, e2, sz.cells, d1, z1, tupV]) | (with_reducible refine Run.gC ?_ ?_ <;> intro hb <;> try simp only [hb]) | (with_reducible refine Run.gG ?_ ?_ <;> intro hb <;> try simp only [hb]) | (with_reducible refine Run.gQ ?_ ?_ <;> intro hb <;> try simp only [hb])))
            obtain ⟨a', b', s1, s2⟩ := o3.show3 (K' := ((H2.set lx ⟨B.sz, B.rows.set k (prRow (blockP w o t.ps[k]))⟩).set H1.next ⟨3, [[x3, y3, zs]]⟩).set 1 ⟨3, [[x3, y3, zs]]⟩) i3.wp sz' hok' fun k' b' hk' hb' => by
              have : 3 ≤ k' ∧ k' ≠ H1.next := k3 k' (hk'.imp id .inl)
              rw [Heap.set_blk, if_neg (by omega), Heap.set_blk, if_neg this.2]
              exact hb'
            exact ⟨_, thawV_tup (mapM2 s1 (thaw2_nili _ _)), .inl ⟨hok, ⟨hin', hnb⟩, _, _, _, rfl, s2⟩⟩
          · exact absurd hri g
          · exact absurd hts g
        · (repeat' (first | (simp only [wp, extractV, exists_eq_left', if_true, if_false, ite_true, ite_false, reduceIte, Nat.reduceAdd, Nat.reduceLT, Nat.reduceLeDiff, Nat.reduceEqDiff, q1, q2, q3, q4', hgs, Heap.set_set, List.set_set, e2, z2, z3, decide_eq_false hd, d1, z1, tupV]) | (with_reducible refine Run.gC ?_ ?_ <;> intro hb <;> try simp only [hb]) | (with_reducible refine Run.gG ?_ ?_ <;> intro hb <;> try simp only [hb]) | (with_reducible refine Run.gQ ?_ ?_ <;> intro hb <;> try simp only [hb])))
          rw [← hrow']
          have hok'' : TabOk ⟨setP t.ps (k : Int) (blockP w o), t.q.filter (· ≠ (k : Int)), t.ts⟩ := by
            have := hok'
            unfold Tab.block at this
            rwa [if_neg hd] at this
          have eb : Tab.block t k w o d = ⟨setP t.ps (k : Int) (blockP w o), t.q.filter (· ≠ (k : Int)), t.ts⟩ := by unfold Tab.block; rw [if_neg hd]
          obtain ⟨a', b', c', s1, s2⟩ := o3.show1 (K' := (H2.set lx ⟨B.sz, B.rows.set k (prRow (blockP w o t.ps[k]))⟩).set 1 ⟨3, [[x3, y3, z3']]⟩) i3.wp hok'' (fun k' b' hk' hb' => by
            have : 3 ≤ k' ∧ k' ≠ H1.next := k3 k' hk'
            rw [Heap.set_blk, if_neg (by omega)]
            exact hb') true
          exact ⟨_, thawV_tup (mapM2 s1 (thaw2_nili _ _)), .inl ⟨hok, ⟨hin', hnb⟩, _, _, _, rfl, by rw [eb]; exact s2⟩⟩
      · (repeat' (first | (simp only [wp, extractV, exists_eq_left', if_true, if_false, ite_true, ite_false, reduceIte, Nat.reduceAdd, Nat.reduceLT, Nat.reduceLeDiff, Nat.reduceEqDiff, e1, s1, c1, c2, c3, c4, c5]) | (with_reducible refine Run.gC ?_ ?_ <;> intro hb <;> try simp only [hb]) | (with_reducible refine Run.gG ?_ ?_ <;> intro hb <;> try simp only [hb]) | (with_reducible refine Run.gQ ?_ ?_ <;> intro hb <;> try simp only [hb])))
        refine (i1.leave (n + 3) (by unfold big; omega) k).mono fun _ H2 ⟨i2, n2⟩ => ?_
        obtain ⟨xx, yy, zz, lx, B, q1, q2, q3, q4, q5, q6, q7, q8, q9, put⟩ := i2.proc (p := k) hk
        have q4' : B.rows[k]? = some (prRow t.ps[k]) := q4
        rw [hrow] at q4'
        have hgs : ∀ r, (B.rows.set k r)[k]? = some r := fun r => List.getElem?_set_self q5
        have z2 : ¬ H1.next = lx := fun e => q7 e.symm
        have z3 : ¬ 1 = lx := by have : 3 ≤ lx := q8; omega
        have e2 : H2.floor = 0 := i2.fl
        have i3 := put (blockP w o) (show Wp (blockP w o t.ps[k]) from h.wp t.ps[k] (List.getElem_mem hk))
        have d1 : H2.blk 1 = some ⟨3, [[.nils, .nils, .nils]]⟩ := (i2.old 1 (by simp [Heap.add_next, Heap.empty_next])).trans rfl
        have k3' : ∀ j, 3 ≤ j → ¬ j = 1 := fun j hj => by omega
        obtain ⟨x3, y3, z3', q10, o3, k3⟩ := i3.tab
        have e3 : x3 = xx ∧ y3 = yy ∧ z3' = zz := by
          rw [Heap.set_blk, if_neg z2, q1] at q10
          cases q10
          exact ⟨rfl, rfl, rfl⟩
        obtain ⟨rfl, rfl, rfl⟩ := e3
        by_cases hd : 0 ≤ d
        · (repeat' (first | (simp only [wp, extractV, exists_eq_left', if_true, if_false, ite_true, ite_false, reduceIte, Nat.reduceAdd, Nat.reduceLT, Nat.reduceLeDiff, Nat.reduceEqDiff, q1, q2, q3, q4', hgs, Heap.set_set, List.set_set, e2, z2, z3, decide_eq_true hd]) | (with_reducible refine Run.gC ?_ ?_ <;> intro hb <;> try simp only [hb]) | (with_reducible refine Run.gG ?_ ?_ <;> intro hb <;> try simp only [hb]) | (with_reducible refine Run.gQ ?_ ?_ <;> intro hb <;> try simp only [hb])))
          rw [← hrow']
          obtain ⟨zi, g1, _, g3⟩ := o3.s.thawV (flat_tm _) true
          refine Run.ans (bs := [zi, .int .i64 k, .int .i64 d]) rfl ?_ (set_spec hG.s n g3 h.big.2.2 k d) fun r hr => ?_
          · rw [List.mapM_cons, show thawV true _ z3' = some zi from g1]
            simp [thawV, thaw, V.flat]
          have hts : TsOk 8 t.ts := by
            have := hok.ts
            have h8 := hok.few
            rw [TsOk_iff] at this ⊢
            exact ⟨fun a ha => by have := this.1 a ha; unfold right at *; omega, this.2⟩
          have hri : right 8 ⟨(k : Int), d⟩ := by
            have := hnb.2.2.2
            have h8 := hok.few
            unfold right; simp only; omega
          rcases hr with ⟨_, _, zs, rfl, sz⟩ | ⟨_, g, _⟩ | ⟨g, _⟩
          · have sz' : Sls zs 2 ((if 0 ≤ d then setT t.ts k d else t.ts).map tmRow) := by rw [if_pos hd]; exact sz
            (repeat' (first | (simp only [wp, extractV, exists_eq_left', if_true, if_false, ite_true, ite_false, reduceIte, Nat.reduceAdd, Nat.reduceLT, Nat.reduceLeDiff, Nat.reduceEqDiff, q1, z2, z3, e2, sz.cells, d1, z1, tupV]) | (with_reducible refine Run.gC ?_ ?_ <;> intro hb <;> try simp only [hb]) | (with_reducible refine Run.gG ?_ ?_ <;> intro hb <;> try simp only [hb]) | (with_reducible refine Run.gQ ?_ ?_ <;> intro hb <;> try simp only [hb])))
            obtain ⟨a', b', s1, s2⟩ := o3.show3 (K' := ((H2.set lx ⟨B.sz, B.rows.set k (prRow (blockP w o t.ps[k]))⟩).set H1.next ⟨3, [[x3, y3, zs]]⟩).set 1 ⟨3, [[x3, y3, zs]]⟩) i3.wp sz' hok' fun k' b' hk' hb' => by
              have : 3 ≤ k' ∧ k' ≠ H1.next := k3 k' (hk'.imp id .inl)
              rw [Heap.set_blk, if_neg (by omega), Heap.set_blk, if_neg this.2]
              exact hb'
            exact ⟨_, thawV_tup (mapM2 s1 (thaw2_nili _ _)), .inl ⟨hok, ⟨hin', hnb⟩, _, _, _, rfl, s2⟩⟩
          · exact absurd hri g
          · exact absurd hts g
        · (repeat' (first | (simp only [wp, extractV, exists_eq_left', if_true, if_false, ite_true, ite_false, reduceIte, Nat.reduceAdd, Nat.reduceLT, Nat.reduceLeDiff, Nat.reduceEqDiff, q1, q2, q3, q4', hgs, Heap.set_set, List.set_set, e2, z2, z3, decide_eq_false hd, d1, z1, tupV]) | (with_reducible refine Run.gC ?_ ?_ <;> intro hb <;> try simp only [hb]) | (with_reducible refine Run.gG ?_ ?_ <;> intro hb <;> try simp only [hb]) | (with_reducible refine Run.gQ ?_ ?_ <;> intro hb <;> try simp only [hb])))
          rw [← hrow']
          have hok'' : TabOk ⟨setP t.ps (k : Int) (blockP w o), t.q.filter (· ≠ (k : Int)), t.ts⟩ := by
            have := hok'
            unfold Tab.block at this
            rwa [if_neg hd] at this
          have eb : Tab.block t k w o d = ⟨setP t.ps (k : Int) (blockP w o), t.q.filter (· ≠ (k : Int)), t.ts⟩ := by unfold Tab.block; rw [if_neg hd]
          obtain ⟨a', b', c', s1, s2⟩ := o3.show1 (K' := (H2.set lx ⟨B.sz, B.rows.set k (prRow (blockP w o t.ps[k]))⟩).set 1 ⟨3, [[x3, y3, z3']]⟩) i3.wp hok'' (fun k' b' hk' hb' => by
            have : 3 ≤ k' ∧ k' ≠ H1.next := k3 k' hk'
            rw [Heap.set_blk, if_neg (by omega)]
            exact hb') true
          exact ⟨_, thawV_tup (mapM2 s1 (thaw2_nili _ _)), .inl ⟨hok, ⟨hin', hnb⟩, _, _, _, rfl, by rw [eb]; exact s2⟩⟩
    · (repeat' (first | (simp only [wp, extractV, exists_eq_left', if_true, if_false, ite_true, ite_false, reduceIte, Nat.reduceAdd, Nat.reduceLT, Nat.reduceLeDiff, Nat.reduceEqDiff, e1, b1, z1, glob_at hG.arg, buildV, fill, apartV, tupV]) | (with_reducible refine Run.gC ?_ ?_ <;> intro hb <;> try simp only [hb]) | (with_reducible refine Run.gG ?_ ?_ <;> intro hb <;> try simp only [hb]) | (with_reducible refine Run.gQ ?_ ?_ <;> intro hb <;> try simp only [hb])))
      all_goals first
        | exact ⟨_, thaw_bad _ _, .inr (.inr ⟨hok, fun g => hnb g.2, rfl⟩)⟩
        | (exfalso; simp only [decide_eq_true_eq, decide_eq_false_iff_not, beq_iff_eq, beq_eq_false_iff_ne, ne_eq] at *; exact hnb ⟨by omega, by omega, fun _ => by omega, by omega⟩)
  · (repeat' (first | (simp only [wp, extractV, exists_eq_left', if_true, if_false, ite_true, ite_false, reduceIte, Nat.reduceAdd, Nat.reduceLT, Nat.reduceLeDiff, Nat.reduceEqDiff, badV, eq_err, buildV, fill, tupV]) | (with_reducible refine Run.gC ?_ ?_ <;> intro hb <;> try simp only [hb]) | (with_reducible refine Run.gG ?_ ?_ <;> intro hb <;> try simp only [hb]) | (with_reducible refine Run.gQ ?_ ?_ <;> intro hb <;> try simp only [hb])))
    exact ⟨_, thaw_bad _ _, .inr (.inl ⟨hok, rfl⟩)⟩
  · (repeat' (first | (simp only [wp, extractV, exists_eq_left', if_true, if_false, ite_true, ite_false, reduceIte, Nat.reduceAdd, Nat.reduceLT, Nat.reduceLeDiff, Nat.reduceEqDiff, badV, eq_err, buildV, fill, tupV]) | (with_reducible refine Run.gC ?_ ?_ <;> intro hb <;> try simp only [hb]) | (with_reducible refine Run.gG ?_ ?_ <;> intro hb <;> try simp only [hb]) | (with_reducible refine Run.gQ ?_ ?_ <;> intro hb <;> try simp only [hb])))
    exact ⟨_, thaw_bad _ _, .inr (.inr ⟨hok, fun g => hin g.1, rfl⟩)⟩

set_option maxRecDepth 20000 in
theorem wakeR_spec (hG : Errs G) (n : Nat) {x y z : V} {t : Tab} (h : IsTab x y z t) (p r1 : Int) :
    ∃ r, callV (cfg G) (sem (cfg G) (n + 8)) 16 [.agg [x, y, z], .int .i64 p, .int .u32 r1] = M.ret r ∧ Ans t (inOk t p [2]) (t.wake p r1) r := by
  refine callV_pureE rfl (by simp [h.closed, cI]) ?_
  rw [ferry_ready_Wake_eq]
  simp only [ferry_ready_Wake]
  (repeat' (first | (simp only [wp, extractV, exists_eq_left', if_true, if_false, ite_true, ite_false, reduceIte, Nat.reduceAdd, Nat.reduceLT, Nat.reduceLeDiff, Nat.reduceEqDiff, Run.slice, fillRows, List.replicate_succ, List.replicate_zero]) | (with_reducible refine Run.gC ?_ ?_ <;> intro hb <;> try simp only [hb]) | (with_reducible refine Run.gG ?_ ?_ <;> intro hb <;> try simp only [hb]) | (with_reducible refine Run.gQ ?_ ?_ <;> intro hb <;> try simp only [hb])))
  refine (in_spec hG n h p (w := .imm 1 [[.int .i64 2]]) (ss := [2]) (Sls.imm _ _) (by decide) (Nat.zero_le _) ?_).mono fun v H1 hres => ?_
  · rw [List.mapM_cons, thawV_closed h.closed]
    rfl
  rcases hres with ⟨hok, hin, u, rfl, a, b, c, rfl, o1, f, ll⟩ | ⟨hok, rfl, rfl⟩ | ⟨hok, hin, rfl, rfl⟩
  · have few := ((ROk_iff t).2 hok).few
    have e1 : H1.floor = 0 := f.floor
    have i1 := InB.start o1 f (Nat.zero_le _) ll h.wp
    have n1 : 3 ≤ H1.next := f.next
    have z1 : ¬ 1 = H1.next := by omega
    have hin' := hin
    obtain ⟨q, hq, hs⟩ := hin
    have hs1 : q.state = 2 := by simpa using hs
    (repeat' (first | (simp only [wp, extractV, exists_eq_left', if_true, if_false, ite_true, ite_false, reduceIte, Nat.reduceAdd, Nat.reduceLT, Nat.reduceLeDiff, Nat.reduceEqDiff, e1]) | (with_reducible refine Run.gC ?_ ?_ <;> intro hb <;> try simp only [hb]) | (with_reducible refine Run.gG ?_ ?_ <;> intro hb <;> try simp only [hb]) | (with_reducible refine Run.gQ ?_ ?_ <;> intro hb <;> try simp only [hb])))
    refine (i1.wake (n + 3) hok hq r1).mono fun _ H2 ⟨i2, n2⟩ => ?_
    have d1 : H2.blk 1 = some ⟨3, [[.nils, .nils, .nils]]⟩ := (i2.old 1 (by simp [Heap.add_next, Heap.empty_next])).trans rfl
    have e2 : H2.floor = 0 := i2.fl
    obtain ⟨x3, y3, z3, q10, o3, k3⟩ := i2.tab
    (repeat' (first | (simp only [wp, extractV, exists_eq_left', if_true, if_false, ite_true, ite_false, reduceIte, Nat.reduceAdd, Nat.reduceLT, Nat.reduceLeDiff, Nat.reduceEqDiff, q10, e2, d1, z1, tupV]) | (with_reducible refine Run.gC ?_ ?_ <;> intro hb <;> try simp only [hb]) | (with_reducible refine Run.gG ?_ ?_ <;> intro hb <;> try simp only [hb]) | (with_reducible refine Run.gQ ?_ ?_ <;> intro hb <;> try simp only [hb])))
    obtain ⟨a', b', c', s1, s2⟩ := o3.show1 (K' := H2.set 1 ⟨3, [[x3, y3, z3]]⟩) i2.wp (hok.wake hq hs1 r1) (fun k' b' hk' hb' => by
      have : 3 ≤ k' ∧ k' ≠ H1.next := k3 k' hk'
      rw [Heap.set_blk, if_neg (by omega)]
      exact hb') true
    exact ⟨_, thawV_tup (mapM2 s1 (thaw2_nili _ _)), .inl ⟨hok, hin', _, _, _, rfl, s2⟩⟩
  · (repeat' (first | (simp only [wp, extractV, exists_eq_left', if_true, if_false, ite_true, ite_false, reduceIte, Nat.reduceAdd, Nat.reduceLT, Nat.reduceLeDiff, Nat.reduceEqDiff, badV, eq_err, buildV, fill, tupV]) | (with_reducible refine Run.gC ?_ ?_ <;> intro hb <;> try simp only [hb]) | (with_reducible refine Run.gG ?_ ?_ <;> intro hb <;> try simp only [hb]) | (with_reducible refine Run.gQ ?_ ?_ <;> intro hb <;> try simp only [hb])))
    exact ⟨_, thaw_bad _ _, .inr (.inl ⟨hok, rfl⟩)⟩
  · (repeat' (first | (simp only [wp, extractV, exists_eq_left', if_true, if_false, ite_true, ite_false, reduceIte, Nat.reduceAdd, Nat.reduceLT, Nat.reduceLeDiff, Nat.reduceEqDiff, badV, eq_err, buildV, fill, tupV]) | (with_reducible refine Run.gC ?_ ?_ <;> intro hb <;> try simp only [hb]) | (with_reducible refine Run.gG ?_ ?_ <;> intro hb <;> try simp only [hb]) | (with_reducible refine Run.gQ ?_ ?_ <;> intro hb <;> try simp only [hb])))
    exact ⟨_, thaw_bad _ _, .inr (.inr ⟨hok, fun g => hin g, rfl⟩)⟩
end Go.Fv.Tr
