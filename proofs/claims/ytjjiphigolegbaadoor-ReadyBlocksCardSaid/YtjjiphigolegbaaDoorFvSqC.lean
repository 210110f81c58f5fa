/-
  What the document's functions of the layer 9 answer: Fire. By an AI agent; no person has read it.
-/
import Derived.Test.YtjjiphigolegbaaDoorFvSqB
set_option linter.unusedVariables false
set_option linter.unusedSimpArgs false
set_option linter.unusedSectionVars false
/-! What the document's functions of the layer 9 answer: Fire. -/
namespace Go.Fv.Tr
open Go Go.Fv Go.Fv.Pl Go.Proofs
set_option linter.unusedSimpArgs false
set_option linter.unusedVariables false
variable {G : Nat → Option (List V)}

theorem split_ts {l : List Tm} (h : l.Pairwise before) (now : Int) : l = l.filter (·.due ≤ now) ++ l.filter (fun x => now < x.due) := by
  induction l with
  | nil => rfl
  | cons a l ih =>
    have ih := ih (List.pairwise_cons.1 h).2
    by_cases h1 : a.due ≤ now
    · rw [List.filter_cons_of_pos (by simpa using h1), List.filter_cons_of_neg (by simp; omega), List.cons_append, ← ih]
    · have all : ∀ b ∈ l, ¬ b.due ≤ now := fun b hb => by
        have := (List.pairwise_cons.1 h).1 b hb
        unfold before at this
        omega
      have e1 : (a :: l).filter (·.due ≤ now) = [] := List.filter_eq_nil_iff.2 fun b hb => by
        rcases List.mem_cons.1 hb with rfl | hb
        · simpa using h1
        · simpa using all b hb
      have e2 : (a :: l).filter (fun x => now < x.due) = a :: l := List.filter_eq_self.2 fun b hb => by
        rcases List.mem_cons.1 hb with rfl | hb
        · simp; omega
        · have := all b hb; simp; omega
      rw [e1, e2, List.nil_append]
/-- What is left of the timers behind the first so many that are due. -/
theorem drop_ts {n : Int} {ts : List Tm} (h : TsOk n ts) (now : Int) (i : Nat) : ts.filter (·.proc ∉ (dues ts now).take i) = (ts.filter (·.due ≤ now)).drop i ++ ts.filter (fun x => now < x.due) := by
  have hnd := h.nodup
  have hs := split_ts h.pairwise now
  have hP : ((ts.filter (·.due ≤ now)).map Tm.proc).Nodup := dues_nodup h now
  have hd : (dues ts now).take i = ((ts.filter (·.due ≤ now)).take i).map Tm.proc := by unfold dues; rw [List.map_take]
  have hS : ∀ a ∈ ts.filter (fun x => now < x.due), a.proc ∉ (dues ts now).take i := fun a ha hm => by
    rw [hd] at hm
    obtain ⟨b, hb, e⟩ := List.mem_map.1 hm
    have hb2 := List.mem_filter.1 (List.mem_of_mem_take hb)
    have ha2 := List.mem_filter.1 ha
    have := nodup_inj hnd hb2.1 ha2.1 e
    subst this
    have g1 := hb2.2
    have g2 := ha2.2
    simp only [decide_eq_true_eq] at g1 g2
    omega
  generalize (dues ts now).take i = D at hd hS ⊢
  conv => lhs; rw [hs]
  rw [List.filter_append, (List.filter_eq_self (l := ts.filter (fun x => now < x.due))).2 (fun a ha => by simpa using hS a ha)]
  congr 1
  generalize ts.filter (·.due ≤ now) = P at hP hd ⊢
  have e1 : (P.take i).filter (·.proc ∉ D) = [] := List.filter_eq_nil_iff.2 fun a ha => by
    rw [hd]
    simp only [decide_eq_true_eq, Decidable.not_not]
    exact List.mem_map.2 ⟨a, ha, rfl⟩
  have e2 : (P.drop i).filter (·.proc ∉ D) = P.drop i := List.filter_eq_self.2 fun a ha => by
    rw [hd]
    simp only [decide_eq_true_eq]
    intro hm
    obtain ⟨b, hb, e⟩ := List.mem_map.1 hm
    rw [← List.take_append_drop i P, List.map_append, List.nodup_append] at hP
    exact hP.2.2 _ (List.mem_map.2 ⟨b, hb, rfl⟩) _ (List.mem_map.2 ⟨a, ha, rfl⟩) e
  conv => lhs; rw [← List.take_append_drop i P]
  rw [List.filter_append, e1, e2, List.nil_append]

def RAns3 (t : Tab) (u : Tab) (l : List Int) (r : V) : Prop := (TabOk t ∧ ∃ a b c d, r = .tuple [.agg [a, b, c], d, i64 0] ∧ IsTab a b c u ∧ Sls d 1 (l.map intRow)) ∨ (¬ TabOk t ∧ r = .tuple [.agg [.nils, .nils, .nils], .nils, i64 9])
set_option maxRecDepth 20000 in
theorem rfire_spec (n : Nat) {x y z : V} {t : Tab} (h : IsTab x y z t) (now : Int) :
    ∃ r, callV (cfg G) (sem (cfg G) (n + 5)) 48 [.agg [x, y, z], .int .i64 now] = M.ret r ∧ RAns3 t (t.fire now) (dues t.ts now) r := by
  refine callV_pureE rfl (by simp [h.closed, cI]) ?_
  rw [ferry_ferryref09_Fire_eq]
  simp only [ferry_ferryref09_Fire]
  by_cases hok : TabOk t
  · have few := ((ROk_iff t).2 hok).few
    have sm := small_of hok
    (repeat' (first | (simp only [wp, extractV, exists_eq_left', if_true, if_false, ite_true, ite_false, reduceIte, Nat.reduceAdd, Nat.reduceLT, Nat.reduceLeDiff, Nat.reduceEqDiff, ref_good_spec _ h, decide_eq_true hok]) | (with_reducible refine Run.gC ?_ ?_ <;> intro hb <;> try simp only [hb]) | (with_reducible refine Run.gG ?_ ?_ <;> intro hb <;> try simp only [hb]) | (with_reducible refine Run.gQ ?_ ?_ <;> intro hb <;> try simp only [hb])))
    refine (rcopied_spec _ h sm (by exact Nat.zero_le _)).mono fun v H1 ⟨a, b, c, e, o1, f1, l1⟩ => ?_
    subst e
    have hin := InS.of (InT.start o1 f1 rfl (by exact Nat.le_refl 2) rfl l1 h.wp)
    have hn2 : 2 ≤ H1.next := f1.next
    have hfl : H1.floor = 0 := f1.floor
    have wl := dues_wl hok now
    have wlen := wl.len hok
    (repeat' (first | (simp only [wp, extractV, exists_eq_left', if_true, if_false, ite_true, ite_false, reduceIte, Nat.reduceAdd, Nat.reduceLT, Nat.reduceLeDiff, Nat.reduceEqDiff, hfl]) | (with_reducible refine Run.gC ?_ ?_ <;> intro hb <;> try simp only [hb]) | (with_reducible refine Run.gG ?_ ?_ <;> intro hb <;> try simp only [hb]) | (with_reducible refine Run.gQ ?_ ?_ <;> intro hb <;> try simp only [hb])))
    unfold Tab.fire
    refine Run.loop (N := (dues t.ts now).length) (fun i s H => ∃ l, s = [l] ∧ InS H H1.next (t.wakes lateOf ((dues t.ts now).take i)) ∧ Own H l 1 (((dues t.ts now).take i).map intRow) ∧
      (∀ k, loc l = some k → 2 ≤ k ∧ k ≠ H1.next ∧ ∀ a b c, H.blk H1.next = some ⟨3, [[a, b, c]]⟩ → ¬ (loc a = some k ∨ loc b = some k ∨ loc c = some k)))
      ⟨.nils, rfl, hin, Own.nils _ _, fun k hk => by cases hk⟩ ?_
    rintro i s H hi ⟨l, rfl, hT, hl, hlk⟩
    obtain ⟨a', b', c', hb, hs, hk⟩ := hT.tab
    have ets : (t.wakes lateOf ((dues t.ts now).take i)).ts = (t.ts.filter (·.due ≤ now)).drop i ++ t.ts.filter (fun x => now < x.due) := by rw [wakes_ts, drop_ts hok.ts now i]
    have hPl : (t.ts.filter (·.due ≤ now)).length = (dues t.ts now).length := by unfold dues; rw [List.length_map]
    have hlc := len_or hs.s
    by_cases hlt : i < (dues t.ts now).length
    · have hiP : i < (t.ts.filter (·.due ≤ now)).length := by omega
      have ehd : (t.wakes lateOf ((dues t.ts now).take i)).ts = (t.ts.filter (·.due ≤ now))[i] :: ((t.ts.filter (·.due ≤ now)).drop (i + 1) ++ t.ts.filter (fun x => now < x.due)) := by
        rw [ets, List.drop_eq_getElem_cons hiP, List.cons_append]
      have hpd : (t.ts.filter (·.due ≤ now))[i].proc = (dues t.ts now)[i] := by simp only [dues, List.getElem_map]
      have hdue : (t.ts.filter (·.due ≤ now))[i].due ≤ now := by
        have := (List.mem_filter.1 (List.getElem_mem hiP)).2
        simpa using this
      have hpos : 0 < (t.wakes lateOf ((dues t.ts now).take i)).ts.length := by rw [ehd]; simp
      obtain ⟨P, hix, hld⟩ := idx_or (i := 0) hs.s (by rw [List.length_map]; exact hpos)
      have hr0 : (((t.wakes lateOf ((dues t.ts now).take i)).ts.map tmRow)[0]'(by rw [List.length_map]; exact hpos)) = tmRow (t.ts.filter (·.due ≤ now))[i] := by
        simp only [List.getElem_map, ehd, List.getElem_cons_zero]
      rw [hr0] at hld
      obtain ⟨P1, g1, g2⟩ := hld 1 _ rfl
      obtain ⟨P0, g3, g4⟩ := hld 0 _ rfl
      obtain ⟨p, hp, hp3, hp2⟩ := wl.at lateOf hlt
      have hpn := at?_some.1 hp2
      have hpl := (List.getElem?_eq_some_iff.1 hpn.2).1
      have hpe : (t.wakes lateOf ((dues t.ts now).take i)).ps[(dues t.ts now)[i].toNat] = p := (List.getElem?_eq_some_iff.1 hpn.2).2
      have hwp := hT.wp p (List.mem_of_getElem? hpn.2)
      obtain ⟨R, rix, rld⟩ := idx_or (i := (dues t.ts now)[i].toNat) hs.p (by rw [List.length_map]; exact hpl)
      simp only [List.getElem_map, hpe] at rld
      rw [Int.toNat_of_nonneg hpn.1] at rix
      obtain ⟨R1, r1, r2⟩ := rld 19 _ (pr_wait hwp)
      have e0 : decide ((0 : Int) < ((t.wakes lateOf ((dues t.ts now).take i)).ts.length : Int)) = true := decide_eq_true (by omega)
      simp only [hpd, Int.natCast_zero] at hix g2 g4
      have next := wakes_next t lateOf hlt hp2
      have hb0 := hb
      have f2 : Frame H (H.add ⟨1, [intRow (dues t.ts now)[i]]⟩) (fun _ => False) := Frame.add _ _
      simp only [ferry_ferryref09_Fire_l1, ferry_ferryref09_Fire_j1]
      (repeat' (first | (simp only [wp, extractV, exists_eq_left', if_true, if_false, ite_true, ite_false, reduceIte, Nat.reduceAdd, Nat.reduceLT, Nat.reduceLeDiff, Nat.reduceEqDiff, hb, hlc, List.length_map, e0, hix, g1, g2, g3, g4, decide_eq_true hdue, rix, r1, r2]) | (with_reducible refine Run.gC ?_ ?_ <;> intro hb <;> try simp only [hb]) | (with_reducible refine Run.gG ?_ ?_ <;> intro hb <;> try simp only [hb]) | (with_reducible refine Run.gQ ?_ ?_ <;> intro hb <;> try simp only [hb])))
      · have elate : lateOf p = 0 := if_pos (by simpa using hb)
        rw [elate] at next
        refine (Run.slice (n := 0)).2 ⟨[intRow (dues t.ts now)[i]], rfl, ?_⟩
        refine (Run.app (items := [intRow (dues t.ts now)[i]]) (by show H.floor ≤ H.next + 1; rw [hT.fl]; exact Nat.zero_le _) (hl.frame f2 fun _ _ g => g) (by simp [itemsV, Heap.add_blk]) (by simp only [List.length_map, List.length_take, List.length_cons, List.length_nil]; unfold room; omega)).mono fun l' H3 ⟨ol, f3, ll⟩ => ?_
        have f4 := f2.trans f3 (r := fun k => loc l = some k) (fun _ _ g => g.elim) (fun _ _ g => g)
        have hT3 := hT.frame f4 (fun g => by have := (hlk _ g).1; omega) (fun g => (hlk _ g).2.1 rfl) (fun a b c g1 k g2 g3 => (hlk k g3).2.2 a b c g1 g2)
        have hb3 := (f4.old H1.next hT.ln fun g => (hlk _ g).2.1 rfl).trans hb0
        have hs3 := hs.frame f4 (fun _ k g2 g3 => (hlk k g3).2.2 a' b' c' hb0 g2)
        obtain ⟨a2, b2, c2, q1, q2⟩ := hs3.thaw (K := H3) hT.wp (wl.ok hok _ i) (fun _ _ g _ => g)
        (repeat' (first | (simp only [wp, extractV, exists_eq_left', if_true, if_false, ite_true, ite_false, reduceIte, Nat.reduceAdd, Nat.reduceLT, Nat.reduceLeDiff, Nat.reduceEqDiff, hb3]) | (with_reducible refine Run.gC ?_ ?_ <;> intro hb <;> try simp only [hb]) | (with_reducible refine Run.gG ?_ ?_ <;> intro hb <;> try simp only [hb]) | (with_reducible refine Run.gQ ?_ ?_ <;> intro hb <;> try simp only [hb])))
        refine Run.ans (bs := [.agg [a2, b2, c2], .int .i64 (dues t.ts now)[i], .int .u32 0]) rfl ?_ (woken_spec (n + 2) q2 (wl.ok hok _ i) hp2 hp3 0) fun r hr => ?_
        · have e1 : ∀ K : Heap, thawV true K (.agg [a', b', c']) = thaw2 true K (.agg [a', b', c']) := fun _ => rfl
          rw [List.mapM_cons, e1, q1]
          simp [thawV, thaw, V.flat]
        · obtain ⟨a3, b3, c3, rfl, q3⟩ := hr
          (repeat' (first | (simp only [wp, extractV, exists_eq_left', if_true, if_false, ite_true, ite_false, reduceIte, Nat.reduceAdd, Nat.reduceLT, Nat.reduceLeDiff, Nat.reduceEqDiff, hb3, hT3.fl]) | (with_reducible refine Run.gC ?_ ?_ <;> intro hb <;> try simp only [hb]) | (with_reducible refine Run.gG ?_ ?_ <;> intro hb <;> try simp only [hb]) | (with_reducible refine Run.gQ ?_ ?_ <;> intro hb <;> try simp only [hb])))
          have f5 : Frame H3 (H3.set H1.next ⟨3, [[a3, b3, c3]]⟩) (fun k => k = H1.next) := Frame.set _ _ rfl
          have ll' : ∀ k, loc l' = some k → 2 ≤ k ∧ k ≠ H1.next := fun k hk1 => by
            rcases ll k hk1 with g | g
            · exact ⟨(hlk k g).1, (hlk k g).2.1⟩
            · have g2 : H.next + 1 ≤ k := g
              have := hT.ln
              omega
          refine ⟨hlt, l', rfl, by rw [next]; exact hT3.put q3 (wake_wp hT.wp _ _), ?_, fun k hk1 => ⟨(ll' k hk1).1, (ll' k hk1).2, fun a b c e => ?_⟩⟩
          · rw [take_snoc hlt, List.map_append]
            exact ol.frame f5 fun k hk1 e => (ll' k hk1).2 e
          · cases e
            exact is_loc q3 k
      · have elate : lateOf p = 4294967294 := if_neg (by simpa using hb)
        rw [elate] at next
        refine (Run.slice (n := 0)).2 ⟨[intRow (dues t.ts now)[i]], rfl, ?_⟩
        refine (Run.app (items := [intRow (dues t.ts now)[i]]) (by show H.floor ≤ H.next + 1; rw [hT.fl]; exact Nat.zero_le _) (hl.frame f2 fun _ _ g => g) (by simp [itemsV, Heap.add_blk]) (by simp only [List.length_map, List.length_take, List.length_cons, List.length_nil]; unfold room; omega)).mono fun l' H3 ⟨ol, f3, ll⟩ => ?_
        have f4 := f2.trans f3 (r := fun k => loc l = some k) (fun _ _ g => g.elim) (fun _ _ g => g)
        have hT3 := hT.frame f4 (fun g => by have := (hlk _ g).1; omega) (fun g => (hlk _ g).2.1 rfl) (fun a b c g1 k g2 g3 => (hlk k g3).2.2 a b c g1 g2)
        have hb3 := (f4.old H1.next hT.ln fun g => (hlk _ g).2.1 rfl).trans hb0
        have hs3 := hs.frame f4 (fun _ k g2 g3 => (hlk k g3).2.2 a' b' c' hb0 g2)
        obtain ⟨a2, b2, c2, q1, q2⟩ := hs3.thaw (K := H3) hT.wp (wl.ok hok _ i) (fun _ _ g _ => g)
        (repeat' (first | (simp only [wp, extractV, exists_eq_left', if_true, if_false, ite_true, ite_false, reduceIte, Nat.reduceAdd, Nat.reduceLT, Nat.reduceLeDiff, Nat.reduceEqDiff, hb3]) | (with_reducible refine Run.gC ?_ ?_ <;> intro hb <;> try simp only [hb]) | (with_reducible refine Run.gG ?_ ?_ <;> intro hb <;> try simp only [hb]) | (with_reducible refine Run.gQ ?_ ?_ <;> intro hb <;> try simp only [hb])))
        refine Run.ans (bs := [.agg [a2, b2, c2], .int .i64 (dues t.ts now)[i], .int .u32 4294967294]) rfl ?_ (woken_spec (n + 2) q2 (wl.ok hok _ i) hp2 hp3 4294967294) fun r hr => ?_
        · have e1 : ∀ K : Heap, thawV true K (.agg [a', b', c']) = thaw2 true K (.agg [a', b', c']) := fun _ => rfl
          rw [List.mapM_cons, e1, q1]
          simp [thawV, thaw, V.flat]
        · obtain ⟨a3, b3, c3, rfl, q3⟩ := hr
          (repeat' (first | (simp only [wp, extractV, exists_eq_left', if_true, if_false, ite_true, ite_false, reduceIte, Nat.reduceAdd, Nat.reduceLT, Nat.reduceLeDiff, Nat.reduceEqDiff, hb3, hT3.fl]) | (with_reducible refine Run.gC ?_ ?_ <;> intro hb <;> try simp only [hb]) | (with_reducible refine Run.gG ?_ ?_ <;> intro hb <;> try simp only [hb]) | (with_reducible refine Run.gQ ?_ ?_ <;> intro hb <;> try simp only [hb])))
          have f5 : Frame H3 (H3.set H1.next ⟨3, [[a3, b3, c3]]⟩) (fun k => k = H1.next) := Frame.set _ _ rfl
          have ll' : ∀ k, loc l' = some k → 2 ≤ k ∧ k ≠ H1.next := fun k hk1 => by
            rcases ll k hk1 with g | g
            · exact ⟨(hlk k g).1, (hlk k g).2.1⟩
            · have g2 : H.next + 1 ≤ k := g
              have := hT.ln
              omega
          refine ⟨hlt, l', rfl, by rw [next]; exact hT3.put q3 (wake_wp hT.wp _ _), ?_, fun k hk1 => ⟨(ll' k hk1).1, (ll' k hk1).2, fun a b c e => ?_⟩⟩
          · rw [take_snoc hlt, List.map_append]
            exact ol.frame f5 fun k hk1 e => (ll' k hk1).2 e
          · cases e
            exact is_loc q3 k
    · have hil : i = (dues t.ts now).length := by omega
      have hdr : (t.ts.filter (·.due ≤ now)).drop i = [] := List.drop_of_length_le (by omega)
      rw [hdr, List.nil_append] at ets
      have fin : ∀ K : Heap, (∀ k B, H.blk k = some B → k ≠ 1 → K.blk k = some B) → ∃ r, thawV true K (.tuple [.agg [a', b', c'], l, i64 0]) = some r ∧ RAns3 t (t.wakes lateOf (dues t.ts now)) (dues t.ts now) r := fun K hK => by
        rw [take_all (by omega)] at hs hl hT
        have hok' := wl.ok hok lateOf (dues t.ts now).length
        rw [take_all (Nat.le_refl _)] at hok'
        have n1 : ∀ {v : V} {sz : Nat} {rows : List (List V)}, Own H v sz rows → (∀ k, loc v = some k → k ≠ 1) → Own ⟨K.blk, H.next, H.floor⟩ v sz rows := fun {v sz rows} o hv => by
          rcases o with o | ⟨l, n, c, ex, b, rfl, h1, h2, h3, h4⟩
          · exact .inl o
          · exact .inr ⟨l, n, c, ex, b, rfl, hK _ _ h1 (hv _ rfl), h2, h3, h4⟩
        have hs' : ShT ⟨K.blk, H.next, H.floor⟩ a' b' c' (t.wakes lateOf (dues t.ts now)) := hs.imp (fun o => ⟨n1 o.p fun k g => by have := (hk k (.inl g)).1; omega, n1 o.q fun k g => by have := (hk k (.inr (.inl g))).1; omega, n1 o.s fun k g => by have := (hk k (.inr (.inr g))).1; omega, o.pq, o.ps, o.qs⟩) id
        obtain ⟨a2, b2, c2, q1, q2⟩ := hs'.thaw (K := K) hT.wp hok' (fun _ _ g _ => g)
        obtain ⟨l2, _, p2, p3⟩ := (n1 hl fun k g => by have := (hlk k g).1; omega).thawV (flat_ir _) true
        exact ⟨_, thawV_tup (mapM3 q1 ((thaw2_eq (H := ⟨K.blk, H.next, H.floor⟩) (H' := K) (fun _ => rfl) _).trans p2) (thaw2_int _ _ _ _)), .inl ⟨hok, a2, b2, c2, l2, rfl, q2, p3⟩⟩
      simp only [ferry_ferryref09_Fire_l1]
      rcases Nat.eq_zero_or_pos (t.wakes lateOf ((dues t.ts now).take i)).ts.length with h0 | hpos
      · have e0 : decide ((0 : Int) < ((t.wakes lateOf ((dues t.ts now).take i)).ts.length : Int)) = false := decide_eq_false (by omega)
        (repeat' (first | (simp only [wp, extractV, exists_eq_left', if_true, if_false, ite_true, ite_false, reduceIte, Nat.reduceAdd, Nat.reduceLT, Nat.reduceLeDiff, Nat.reduceEqDiff, hb, hlc, List.length_map, e0, hT.fl, hT.b1, tupV]) | (with_reducible refine Run.gC ?_ ?_ <;> intro hb <;> try simp only [hb]) | (with_reducible refine Run.gG ?_ ?_ <;> intro hb <;> try simp only [hb]) | (with_reducible refine Run.gQ ?_ ?_ <;> intro hb <;> try simp only [hb])))
        exact fin _ fun k B g1 g2 => by rw [Heap.set_blk, if_neg g2]; exact g1
      · have e0 : decide ((0 : Int) < ((t.wakes lateOf ((dues t.ts now).take i)).ts.length : Int)) = true := decide_eq_true (by omega)
        obtain ⟨P, hix, hld⟩ := idx_or (i := 0) hs.s (by rw [List.length_map]; exact hpos)
        simp only [List.getElem_map, Int.natCast_zero] at hix hld
        obtain ⟨P1, g1, g2⟩ := hld 1 _ (tm_due _)
        have hdue : ¬ (t.wakes lateOf ((dues t.ts now).take i)).ts[0].due ≤ now := by
          have hm : (t.wakes lateOf ((dues t.ts now).take i)).ts[0] ∈ t.ts.filter (fun x => now < x.due) := by
            rw [← ets]; exact List.getElem_mem _
          have := (List.mem_filter.1 hm).2
          simp only [decide_eq_true_eq] at this
          omega
        (repeat' (first | (simp only [wp, extractV, exists_eq_left', if_true, if_false, ite_true, ite_false, reduceIte, Nat.reduceAdd, Nat.reduceLT, Nat.reduceLeDiff, Nat.reduceEqDiff, hb, hlc, List.length_map, e0, hix, g1, g2, decide_eq_false hdue, hT.fl, hT.b1, tupV]) | (with_reducible refine Run.gC ?_ ?_ <;> intro hb <;> try simp only [hb]) | (with_reducible refine Run.gG ?_ ?_ <;> intro hb <;> try simp only [hb]) | (with_reducible refine Run.gQ ?_ ?_ <;> intro hb <;> try simp only [hb])))
        exact fin _ fun k B g1 g2 => by rw [Heap.set_blk, if_neg g2]; exact g1
  · (repeat' (first | (simp only [wp, extractV, exists_eq_left', if_true, if_false, ite_true, ite_false, reduceIte, Nat.reduceAdd, Nat.reduceLT, Nat.reduceLeDiff, Nat.reduceEqDiff, ref_good_spec _ h, decide_eq_false hok, buildV, fill, tupV]) | (with_reducible refine Run.gC ?_ ?_ <;> intro hb <;> try simp only [hb]) | (with_reducible refine Run.gG ?_ ?_ <;> intro hb <;> try simp only [hb]) | (with_reducible refine Run.gQ ?_ ?_ <;> intro hb <;> try simp only [hb])))
    exact ⟨_, thawV_tup (mapM3 (thaw2_none _ _) (thaw2_nils _ _) (thaw2_int _ _ _ _)), .inr ⟨hok, rfl⟩⟩
end Go.Fv.Tr
