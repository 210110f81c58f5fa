/-
  The law ReadyWakes, run to its end. By an AI agent; no person has read it.
-/
import Derived.Test.YtjjiphigolegbaaDoorFvSqC
import Derived.Test.YtjjiphigolegbaaDoorFvTr11
set_option linter.unusedVariables false
set_option linter.unusedSimpArgs false
set_option linter.unusedSectionVars false
/-! The law ReadyWakes, run to its end. -/
namespace Go.Fv.Tr
open Go Go.Fv Go.Fv.Pl Go.Proofs
set_option linter.unusedSimpArgs false
set_option linter.unusedVariables false
variable {G : Nat → Option (List V)}

def noT : Tab := ⟨[], [], []⟩
theorem no_tab : IsTab .nils .nils .nils noT := ⟨Sls.nils _, Sls.nils _, Sls.nils _, by simp [noT], by simp [noT]⟩
theorem AErrs.terrs (h : AErrs G) : TErrs G := ⟨h.at_ 0 (by omega), h.at_ 2 (by omega), h.at_ 6 (by omega)⟩

set_option maxRecDepth 20000 in
theorem same_spec (hA : AErrs G) (n : Nat) {a b c a' b' c' e : V} {u v : Tab} {k : Int} (h : IsTab a b c u) (h' : IsTab a' b' c' v) (he : Num e k) (m : Int) (hkm : k = m) (huv : u = v) :
    callV (cfg G) (sem (cfg G) (n + 4)) 51 [.agg [a, b, c], e, .agg [a', b', c'], .int .i64 m] = M.ret (.bool true) := by
  subst huv
  subst hkm
  refine callV_pure0 rfl (by simp [h.closed, h'.closed, he.closed, cI]) rfl ?_
  rw [ferry_ferrylaw09_same_eq]
  simp only [ferry_ferrylaw09_same]
  (repeat' (first | (simp only [wp, extractV, exists_eq_left', if_true, if_false, ite_true, ite_false, reduceIte, Nat.reduceAdd, Nat.reduceLT, Nat.reduceLeDiff, Nat.reduceEqDiff, plain_spec hA n he, from_spec (n + 2) h, equal_spec (n + 1) h h', decide_true]) | (with_reducible refine Run.gC ?_ ?_ <;> intro hb <;> try simp only [hb]) | (with_reducible refine Run.gG ?_ ?_ <;> intro hb <;> try simp only [hb]) | (with_reducible refine Run.gQ ?_ ?_ <;> intro hb <;> try simp only [hb])))

theorem num_ok : Num .nili 0 := .inl ⟨rfl, rfl⟩
theorem num_state : Num (errV 0) 9 := .inr (.inl ⟨rfl, rfl⟩)
theorem num_none : Num (errV 1) 17 := .inr (.inr (.inl ⟨rfl, rfl⟩))

theorem sls_thawV {x : V} {sz : Nat} {rows : List (List V)} (h : Sls x sz rows) (H : Heap) : thawV true H x = some x := by
  rcases h with rfl | ⟨_, rfl | rfl⟩ <;> simp [thawV, thaw, V.flat, V.closed]
theorem mapMV2 {ok : Bool} {H : Heap} {a b a' b' : V} (ha : thawV ok H a = some a') (hb : thawV ok H b = some b') : [a, b].mapM (thawV ok H) = some [a', b'] := by simp [ha, hb]
theorem lit_thaw {sz l n : Nat} {rows : List (List V)} {H : Heap} {ex : Bool} (hb : H.blk l = some ⟨sz, rows⟩) (hf : flatRows rows = true) (hn : rows.length = n) : thawV true H (.ref l sz 0 n n ex) = some (.imm sz rows) := by
  subst hn
  simp [thawV, thaw, hb, hf]
theorem closed2 {a b : V} (ha : a.closedV = true) (hb : b.closedV = true) : [a, b].all V.closedV = true := by simp [ha, hb]
theorem wt_some : wt someT.ps 3 1 = [2] := by decide
theorem dues_some : dues someT.ts 10 = [3] := by decide
theorem fire_some : (someT.fire 10).q = [1, 0, 3] := by decide
set_option maxRecDepth 20000 in
theorem wakes_nil (hA : AErrs G) (n : Nat) {x y z : V} {t : Tab} {w o : Int} (h : IsTab x y z t) (hr : t.ps.length * 8 ≤ room) (hok : TabOk t) (hw : wt t.ps w o = []) (pr du pi st nw r1 : Int) :
    Run (sem (cfg G) (n + 10) 10 [.agg [x, y, z, i64 pr, i64 w, i64 o, i64 du, i64 pi, i64 st, i64 nw, .int .u32 r1]]) Heap.empty fun v _ => v = .bool true := by
  rw [ferry_ferrylaw09_ReadyWakes_eq]
  simp only [ferry_ferrylaw09_ReadyWakes]
  obtain ⟨ws, ew, sw⟩ := (waiters_spec (G := G) (n + 8) some_tab (by decide) 3 1).eq rfl (by simp [some_tab.closed, cI])
  rw [wt_some] at sw
  obtain ⟨fs, ef, hfs⟩ := fireR_spec hA.terrs hA.errs (n + 1) some_tab 10
  rcases hfs with ⟨_, fa, fb, fc, fd, rfl, ft, fsl⟩ | ⟨hb, _⟩
  case inr => exact absurd some_ok hb
  rw [dues_some] at fsl
  have fq := ft.q
  rw [fire_some] at fq
  (repeat' (first | (simp only [wp, extractV, exists_eq_left', if_true, if_false, ite_true, ite_false, reduceIte, Nat.reduceAdd, Nat.reduceLT, Nat.reduceLeDiff, Nat.reduceEqDiff, some_spec (n + 8), to_spec (n + 8) some_tab, ew]) | (with_reducible refine Run.gC ?_ ?_ <;> intro hb <;> try simp only [hb]) | (with_reducible refine Run.gG ?_ ?_ <;> intro hb <;> try simp only [hb]) | (with_reducible refine Run.gQ ?_ ?_ <;> intro hb <;> try simp only [hb])))
  refine (Run.slice (n := 0)).2 ⟨[intRow 2], rfl, ?_⟩
  refine (Run.callRef (bs := [ws, .imm 1 [intRow 2]]) rfl (mapMV2 (sls_thawV sw _) (lit_thaw (Heap.add_new _) rfl rfl)) (closed2 sw.closedV rfl) (equalInts_spec (n + 8) sw (Sls.imm 1 (([2] : List Int).map intRow)) (by decide)) rfl).2 ?_
  (repeat' (first | (simp only [wp, extractV, exists_eq_left', if_true, if_false, ite_true, ite_false, reduceIte, Nat.reduceAdd, Nat.reduceLT, Nat.reduceLeDiff, Nat.reduceEqDiff, decide_true, some_spec (n + 8), to_spec (n + 8) some_tab, ef]) | (with_reducible refine Run.gC ?_ ?_ <;> intro hb <;> try simp only [hb]) | (with_reducible refine Run.gG ?_ ?_ <;> intro hb <;> try simp only [hb]) | (with_reducible refine Run.gQ ?_ ?_ <;> intro hb <;> try simp only [hb])))
  refine (Run.slice (n := 0)).2 ⟨[intRow 3], rfl, ?_⟩
  refine (Run.callRef (bs := [fd, .imm 1 [intRow 3]]) rfl (mapMV2 (sls_thawV fsl _) (lit_thaw (Heap.add_new _) rfl rfl)) (closed2 fsl.closedV rfl) (equalInts_spec (n + 8) fsl (Sls.imm 1 (([3] : List Int).map intRow)) (by decide)) rfl).2 ?_
  (repeat' (first | (simp only [wp, extractV, exists_eq_left', if_true, if_false, ite_true, ite_false, reduceIte, Nat.reduceAdd, Nat.reduceLT, Nat.reduceLeDiff, Nat.reduceEqDiff, decide_true]) | (with_reducible refine Run.gC ?_ ?_ <;> intro hb <;> try simp only [hb]) | (with_reducible refine Run.gG ?_ ?_ <;> intro hb <;> try simp only [hb]) | (with_reducible refine Run.gQ ?_ ?_ <;> intro hb <;> try simp only [hb])))
  refine (Run.slice (n := 2)).2 ⟨[intRow 1, intRow 0, intRow 3], rfl, ?_⟩
  refine (Run.callRef (bs := [fb, .imm 1 [intRow 1, intRow 0, intRow 3]]) rfl (mapMV2 (sls_thawV fq _) (lit_thaw (Heap.add_new _) rfl rfl)) (closed2 fq.closedV rfl) (equalInts_spec (n + 8) fq (Sls.imm 1 (([1, 0, 3] : List Int).map intRow)) (by decide)) rfl).2 ?_
  obtain ⟨w1, ew1, sw1⟩ := (rwaiters_spec (G := G) (n + 8) h hr w o).eq rfl (by simp [h.closed, cI])
  obtain ⟨w2, ew2, sw2⟩ := (waiters_spec (G := G) (n + 8) h hr w o).eq rfl (by simp [h.closed, cI])
  obtain ⟨q1, eq1, a1⟩ := rwakeAll_spec (G := G) (n + 4) h w o r1
  obtain ⟨q2, eq2, a2⟩ := rfire_spec (G := G) (n + 4) h nw
  obtain ⟨q3, eq3, a3⟩ := wakeAll_spec (hA.at_ 0 (by omega)) hA.errs (n + 1) h w o r1
  obtain ⟨q4, eq4, a4⟩ := fireR_spec hA.terrs hA.errs (n + 1) h nw
  have wlen := wtN_len t.ps w o t.ps.length
  have hps := h.big.1
  have e27 := equalInts_spec (G := G) (n + 8) sw2 sw1 (show (wt t.ps w o).length ≤ big by unfold wt; omega)
  have hz : ∀ {l : List V}, [x, y, z, i64 pr, i64 w, i64 o, i64 du, i64 pi, i64 st, i64 nw, .int .u32 r1] = l → l.take 3 = [x, y, z] := fun e => by rw [← e]; rfl
  rcases a1 with ⟨_, b1, b2, b3, rfl, t1⟩ | ⟨g, _⟩
  case inr => exact absurd hok g
  rcases a2 with ⟨_, c1, c2, c3, c4, rfl, t2, s2⟩ | ⟨g, _⟩
  case inr => exact absurd hok g
  rcases a3 with ⟨_, d1, d2, d3, rfl, t3⟩ | ⟨g, _⟩
  case inr => exact absurd hok g
  rcases a4 with ⟨_, f1, f2, f3, f4, rfl, t4, s4⟩ | ⟨g, _⟩
  case inr => exact absurd hok g
  have dl := (dues_wl hok nw).len hok
  have e27b := equalInts_spec (G := G) (n + 8) s4 s2 (by unfold big; omega)
  have es1 := same_spec hA (n + 5) t3 t1 num_ok 0 rfl rfl
  have es2 := same_spec hA (n + 5) t4 t2 num_ok 0 rfl rfl
  have eb1 := rbest_spec (G := G) (n + 5) h w o
  have eb2 := best_spec hA.errs (n + 2) h w o
  have v1 : rbestV t w o = (match wt t.ps w o with | [] => .tuple [i64 0, i64 17] | b :: _ => .tuple [i64 (best (prio t.ps) b (wt t.ps w o)), i64 0]) := if_pos hok
  have v2 : bestV t w o = (match wt t.ps w o with | [] => .tuple [i64 0, errV 1] | b :: _ => .tuple [i64 (best (prio t.ps) b (wt t.ps w o)), .nili]) := if_pos hok
  rw [v1] at eb1
  rw [v2] at eb2
  rw [hw] at eb1 eb2
  simp only at eb1 eb2
  (repeat' (first | (simp only [wp, extractV, exists_eq_left', if_true, if_false, ite_true, ite_false, reduceIte, Nat.reduceAdd, Nat.reduceLT, Nat.reduceLeDiff, Nat.reduceEqDiff, decide_true, ew1, eb1, eq1, eq2, to_spec (n + 8) h, ew2, e27, eb2, plain_spec hA (n + 6) num_none, beq_self_eq_true, eq3, eq4, es1, es2, e27b]) | (with_reducible refine Run.gC ?_ ?_ <;> intro hb <;> try simp only [hb]) | (with_reducible refine Run.gG ?_ ?_ <;> intro hb <;> try simp only [hb]) | (with_reducible refine Run.gQ ?_ ?_ <;> intro hb <;> try simp only [hb])))

set_option maxRecDepth 20000 in
theorem wakes_cons (hA : AErrs G) (n : Nat) {x y z : V} {t : Tab} {w o : Int} (h : IsTab x y z t) (hr : t.ps.length * 8 ≤ room) (hok : TabOk t) {bb : Int} {ll : List Int} (hw : wt t.ps w o = bb :: ll) (pr du pi st nw r1 : Int) :
    Run (sem (cfg G) (n + 10) 10 [.agg [x, y, z, i64 pr, i64 w, i64 o, i64 du, i64 pi, i64 st, i64 nw, .int .u32 r1]]) Heap.empty fun v _ => v = .bool true := by
  rw [ferry_ferrylaw09_ReadyWakes_eq]
  simp only [ferry_ferrylaw09_ReadyWakes]
  obtain ⟨ws, ew, sw⟩ := (waiters_spec (G := G) (n + 8) some_tab (by decide) 3 1).eq rfl (by simp [some_tab.closed, cI])
  rw [wt_some] at sw
  obtain ⟨fs, ef, hfs⟩ := fireR_spec hA.terrs hA.errs (n + 1) some_tab 10
  rcases hfs with ⟨_, fa, fb, fc, fd, rfl, ft, fsl⟩ | ⟨hb, _⟩
  case inr => exact absurd some_ok hb
  rw [dues_some] at fsl
  have fq := ft.q
  rw [fire_some] at fq
  (repeat' (first | (simp only [wp, extractV, exists_eq_left', if_true, if_false, ite_true, ite_false, reduceIte, Nat.reduceAdd, Nat.reduceLT, Nat.reduceLeDiff, Nat.reduceEqDiff, some_spec (n + 8), to_spec (n + 8) some_tab, ew]) | (with_reducible refine Run.gC ?_ ?_ <;> intro hb <;> try simp only [hb]) | (with_reducible refine Run.gG ?_ ?_ <;> intro hb <;> try simp only [hb]) | (with_reducible refine Run.gQ ?_ ?_ <;> intro hb <;> try simp only [hb])))
  refine (Run.slice (n := 0)).2 ⟨[intRow 2], rfl, ?_⟩
  refine (Run.callRef (bs := [ws, .imm 1 [intRow 2]]) rfl (mapMV2 (sls_thawV sw _) (lit_thaw (Heap.add_new _) rfl rfl)) (closed2 sw.closedV rfl) (equalInts_spec (n + 8) sw (Sls.imm 1 (([2] : List Int).map intRow)) (by decide)) rfl).2 ?_
  (repeat' (first | (simp only [wp, extractV, exists_eq_left', if_true, if_false, ite_true, ite_false, reduceIte, Nat.reduceAdd, Nat.reduceLT, Nat.reduceLeDiff, Nat.reduceEqDiff, decide_true, some_spec (n + 8), to_spec (n + 8) some_tab, ef]) | (with_reducible refine Run.gC ?_ ?_ <;> intro hb <;> try simp only [hb]) | (with_reducible refine Run.gG ?_ ?_ <;> intro hb <;> try simp only [hb]) | (with_reducible refine Run.gQ ?_ ?_ <;> intro hb <;> try simp only [hb])))
  refine (Run.slice (n := 0)).2 ⟨[intRow 3], rfl, ?_⟩
  refine (Run.callRef (bs := [fd, .imm 1 [intRow 3]]) rfl (mapMV2 (sls_thawV fsl _) (lit_thaw (Heap.add_new _) rfl rfl)) (closed2 fsl.closedV rfl) (equalInts_spec (n + 8) fsl (Sls.imm 1 (([3] : List Int).map intRow)) (by decide)) rfl).2 ?_
  (repeat' (first | (simp only [wp, extractV, exists_eq_left', if_true, if_false, ite_true, ite_false, reduceIte, Nat.reduceAdd, Nat.reduceLT, Nat.reduceLeDiff, Nat.reduceEqDiff, decide_true]) | (with_reducible refine Run.gC ?_ ?_ <;> intro hb <;> try simp only [hb]) | (with_reducible refine Run.gG ?_ ?_ <;> intro hb <;> try simp only [hb]) | (with_reducible refine Run.gQ ?_ ?_ <;> intro hb <;> try simp only [hb])))
  refine (Run.slice (n := 2)).2 ⟨[intRow 1, intRow 0, intRow 3], rfl, ?_⟩
  refine (Run.callRef (bs := [fb, .imm 1 [intRow 1, intRow 0, intRow 3]]) rfl (mapMV2 (sls_thawV fq _) (lit_thaw (Heap.add_new _) rfl rfl)) (closed2 fq.closedV rfl) (equalInts_spec (n + 8) fq (Sls.imm 1 (([1, 0, 3] : List Int).map intRow)) (by decide)) rfl).2 ?_
  obtain ⟨w1, ew1, sw1⟩ := (rwaiters_spec (G := G) (n + 8) h hr w o).eq rfl (by simp [h.closed, cI])
  obtain ⟨w2, ew2, sw2⟩ := (waiters_spec (G := G) (n + 8) h hr w o).eq rfl (by simp [h.closed, cI])
  obtain ⟨q1, eq1, a1⟩ := rwakeAll_spec (G := G) (n + 4) h w o r1
  obtain ⟨q2, eq2, a2⟩ := rfire_spec (G := G) (n + 4) h nw
  obtain ⟨q3, eq3, a3⟩ := wakeAll_spec (hA.at_ 0 (by omega)) hA.errs (n + 1) h w o r1
  obtain ⟨q4, eq4, a4⟩ := fireR_spec hA.terrs hA.errs (n + 1) h nw
  have wlen := wtN_len t.ps w o t.ps.length
  have hps := h.big.1
  have e27 := equalInts_spec (G := G) (n + 8) sw2 sw1 (show (wt t.ps w o).length ≤ big by unfold wt; omega)
  have hz : ∀ {l : List V}, [x, y, z, i64 pr, i64 w, i64 o, i64 du, i64 pi, i64 st, i64 nw, .int .u32 r1] = l → l.take 3 = [x, y, z] := fun e => by rw [← e]; rfl
  rcases a1 with ⟨_, b1, b2, b3, rfl, t1⟩ | ⟨g, _⟩
  case inr => exact absurd hok g
  rcases a2 with ⟨_, c1, c2, c3, c4, rfl, t2, s2⟩ | ⟨g, _⟩
  case inr => exact absurd hok g
  rcases a3 with ⟨_, d1, d2, d3, rfl, t3⟩ | ⟨g, _⟩
  case inr => exact absurd hok g
  rcases a4 with ⟨_, f1, f2, f3, f4, rfl, t4, s4⟩ | ⟨g, _⟩
  case inr => exact absurd hok g
  have dl := (dues_wl hok nw).len hok
  have e27b := equalInts_spec (G := G) (n + 8) s4 s2 (by unfold big; omega)
  have es1 := same_spec hA (n + 5) t3 t1 num_ok 0 rfl rfl
  have es2 := same_spec hA (n + 5) t4 t2 num_ok 0 rfl rfl
  have eb1 := rbest_spec (G := G) (n + 5) h w o
  have eb2 := best_spec hA.errs (n + 2) h w o
  have v1 : rbestV t w o = (match wt t.ps w o with | [] => .tuple [i64 0, i64 17] | b :: _ => .tuple [i64 (best (prio t.ps) b (wt t.ps w o)), i64 0]) := if_pos hok
  have v2 : bestV t w o = (match wt t.ps w o with | [] => .tuple [i64 0, errV 1] | b :: _ => .tuple [i64 (best (prio t.ps) b (wt t.ps w o)), .nili]) := if_pos hok
  rw [v1] at eb1
  rw [v2] at eb2
  rw [hw] at eb1 eb2
  simp only at eb1 eb2
  (repeat' (first | (simp only [wp, extractV, exists_eq_left', if_true, if_false, ite_true, ite_false, reduceIte, Nat.reduceAdd, Nat.reduceLT, Nat.reduceLeDiff, Nat.reduceEqDiff, decide_true, ew1, eb1, eq1, eq2, to_spec (n + 8) h, ew2, e27, eb2, plain_spec hA (n + 6) num_ok, beq_self_eq_true, eq3, eq4, es1, es2, e27b]) | (with_reducible refine Run.gC ?_ ?_ <;> intro hb <;> try simp only [hb]) | (with_reducible refine Run.gG ?_ ?_ <;> intro hb <;> try simp only [hb]) | (with_reducible refine Run.gQ ?_ ?_ <;> intro hb <;> try simp only [hb])))

set_option maxRecDepth 20000 in
theorem wakes_bad (hA : AErrs G) (n : Nat) {x y z : V} {t : Tab} (h : IsTab x y z t) (hr : t.ps.length * 8 ≤ room) (hok : ¬ TabOk t) (pr w o du pi st nw r1 : Int) :
    Run (sem (cfg G) (n + 10) 10 [.agg [x, y, z, i64 pr, i64 w, i64 o, i64 du, i64 pi, i64 st, i64 nw, .int .u32 r1]]) Heap.empty fun v _ => v = .bool true := by
  rw [ferry_ferrylaw09_ReadyWakes_eq]
  simp only [ferry_ferrylaw09_ReadyWakes]
  obtain ⟨ws, ew, sw⟩ := (waiters_spec (G := G) (n + 8) some_tab (by decide) 3 1).eq rfl (by simp [some_tab.closed, cI])
  rw [wt_some] at sw
  obtain ⟨fs, ef, hfs⟩ := fireR_spec hA.terrs hA.errs (n + 1) some_tab 10
  rcases hfs with ⟨_, fa, fb, fc, fd, rfl, ft, fsl⟩ | ⟨hb, _⟩
  case inr => exact absurd some_ok hb
  rw [dues_some] at fsl
  have fq := ft.q
  rw [fire_some] at fq
  (repeat' (first | (simp only [wp, extractV, exists_eq_left', if_true, if_false, ite_true, ite_false, reduceIte, Nat.reduceAdd, Nat.reduceLT, Nat.reduceLeDiff, Nat.reduceEqDiff, some_spec (n + 8), to_spec (n + 8) some_tab, ew]) | (with_reducible refine Run.gC ?_ ?_ <;> intro hb <;> try simp only [hb]) | (with_reducible refine Run.gG ?_ ?_ <;> intro hb <;> try simp only [hb]) | (with_reducible refine Run.gQ ?_ ?_ <;> intro hb <;> try simp only [hb])))
  refine (Run.slice (n := 0)).2 ⟨[intRow 2], rfl, ?_⟩
  refine (Run.callRef (bs := [ws, .imm 1 [intRow 2]]) rfl (mapMV2 (sls_thawV sw _) (lit_thaw (Heap.add_new _) rfl rfl)) (closed2 sw.closedV rfl) (equalInts_spec (n + 8) sw (Sls.imm 1 (([2] : List Int).map intRow)) (by decide)) rfl).2 ?_
  (repeat' (first | (simp only [wp, extractV, exists_eq_left', if_true, if_false, ite_true, ite_false, reduceIte, Nat.reduceAdd, Nat.reduceLT, Nat.reduceLeDiff, Nat.reduceEqDiff, decide_true, some_spec (n + 8), to_spec (n + 8) some_tab, ef]) | (with_reducible refine Run.gC ?_ ?_ <;> intro hb <;> try simp only [hb]) | (with_reducible refine Run.gG ?_ ?_ <;> intro hb <;> try simp only [hb]) | (with_reducible refine Run.gQ ?_ ?_ <;> intro hb <;> try simp only [hb])))
  refine (Run.slice (n := 0)).2 ⟨[intRow 3], rfl, ?_⟩
  refine (Run.callRef (bs := [fd, .imm 1 [intRow 3]]) rfl (mapMV2 (sls_thawV fsl _) (lit_thaw (Heap.add_new _) rfl rfl)) (closed2 fsl.closedV rfl) (equalInts_spec (n + 8) fsl (Sls.imm 1 (([3] : List Int).map intRow)) (by decide)) rfl).2 ?_
  (repeat' (first | (simp only [wp, extractV, exists_eq_left', if_true, if_false, ite_true, ite_false, reduceIte, Nat.reduceAdd, Nat.reduceLT, Nat.reduceLeDiff, Nat.reduceEqDiff, decide_true]) | (with_reducible refine Run.gC ?_ ?_ <;> intro hb <;> try simp only [hb]) | (with_reducible refine Run.gG ?_ ?_ <;> intro hb <;> try simp only [hb]) | (with_reducible refine Run.gQ ?_ ?_ <;> intro hb <;> try simp only [hb])))
  refine (Run.slice (n := 2)).2 ⟨[intRow 1, intRow 0, intRow 3], rfl, ?_⟩
  refine (Run.callRef (bs := [fb, .imm 1 [intRow 1, intRow 0, intRow 3]]) rfl (mapMV2 (sls_thawV fq _) (lit_thaw (Heap.add_new _) rfl rfl)) (closed2 fq.closedV rfl) (equalInts_spec (n + 8) fq (Sls.imm 1 (([1, 0, 3] : List Int).map intRow)) (by decide)) rfl).2 ?_
  obtain ⟨w1, ew1, sw1⟩ := (rwaiters_spec (G := G) (n + 8) h hr w o).eq rfl (by simp [h.closed, cI])
  obtain ⟨w2, ew2, sw2⟩ := (waiters_spec (G := G) (n + 8) h hr w o).eq rfl (by simp [h.closed, cI])
  obtain ⟨q1, eq1, a1⟩ := rwakeAll_spec (G := G) (n + 4) h w o r1
  obtain ⟨q2, eq2, a2⟩ := rfire_spec (G := G) (n + 4) h nw
  obtain ⟨q3, eq3, a3⟩ := wakeAll_spec (hA.at_ 0 (by omega)) hA.errs (n + 1) h w o r1
  obtain ⟨q4, eq4, a4⟩ := fireR_spec hA.terrs hA.errs (n + 1) h nw
  have wlen := wtN_len t.ps w o t.ps.length
  have hps := h.big.1
  have e27 := equalInts_spec (G := G) (n + 8) sw2 sw1 (show (wt t.ps w o).length ≤ big by unfold wt; omega)
  have hz : ∀ {l : List V}, [x, y, z, i64 pr, i64 w, i64 o, i64 du, i64 pi, i64 st, i64 nw, .int .u32 r1] = l → l.take 3 = [x, y, z] := fun e => by rw [← e]; rfl
  rcases a1 with ⟨g, _⟩ | ⟨_, rfl⟩
  · exact absurd g hok
  rcases a2 with ⟨g, _⟩ | ⟨_, rfl⟩
  · exact absurd g hok
  rcases a3 with ⟨g, _⟩ | ⟨_, rfl⟩
  · exact absurd g hok
  rcases a4 with ⟨g, _⟩ | ⟨_, rfl⟩
  · exact absurd g hok
  have e27b := equalInts_spec (G := G) (n + 8) (a := []) (b := []) (Sls.nils 1) (Sls.nils 1) (by decide)
  have es1 := same_spec hA (n + 5) no_tab no_tab num_state 9 rfl rfl
  have eb1 := rbest_spec (G := G) (n + 5) h w o
  have eb2 := best_spec hA.errs (n + 2) h w o
  have v1 : rbestV t w o = .tuple [i64 0, i64 9] := if_neg hok
  have v2 : bestV t w o = .tuple [i64 0, errV 0] := if_neg hok
  rw [v1] at eb1
  rw [v2] at eb2
  unfold badV at eq3
  (repeat' (first | (simp only [wp, extractV, exists_eq_left', if_true, if_false, ite_true, ite_false, reduceIte, Nat.reduceAdd, Nat.reduceLT, Nat.reduceLeDiff, Nat.reduceEqDiff, decide_true, ew1, eb1, eq1, eq2, to_spec (n + 8) h, ew2, e27, eb2, plain_spec hA (n + 6) num_state, beq_self_eq_true, eq3, eq4, es1, e27b]) | (with_reducible refine Run.gC ?_ ?_ <;> intro hb <;> try simp only [hb]) | (with_reducible refine Run.gG ?_ ?_ <;> intro hb <;> try simp only [hb]) | (with_reducible refine Run.gQ ?_ ?_ <;> intro hb <;> try simp only [hb])))

theorem wakes_run (hA : AErrs G) (n : Nat) {x y z : V} {t : Tab} (h : IsTab x y z t) (hr : t.ps.length * 8 ≤ room) (pr w o du pi st nw r1 : Int) :
    Run (sem (cfg G) (n + 10) 10 [.agg [x, y, z, i64 pr, i64 w, i64 o, i64 du, i64 pi, i64 st, i64 nw, .int .u32 r1]]) Heap.empty fun v _ => v = .bool true := by
  by_cases hok : TabOk t
  · cases hw : wt t.ps w o with
    | nil => exact wakes_nil hA n h hr hok hw pr du pi st nw r1
    | cons bb ll => exact wakes_cons hA n h hr hok hw pr du pi st nw r1
  · exact wakes_bad hA n h hr hok pr w o du pi st nw r1
end Go.Fv.Tr
