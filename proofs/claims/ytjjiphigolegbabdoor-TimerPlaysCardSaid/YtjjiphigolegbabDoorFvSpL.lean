/-
  What the functions of the layer 8 answer: Set, Drop, Fire, Sort. By an AI agent; no person has read it.
-/
import Derived.Test.YtjjiphigolegbabDoorFvSpI
set_option linter.unusedVariables false
set_option linter.unusedSimpArgs false
set_option linter.unusedSectionVars false
/-! What the functions of the layer 8 answer: Set, Drop, Fire, Sort. -/
namespace Go.Fv.Tr
open Go Go.Fv Go.Fv.Pl Go.Proofs
set_option linter.unusedSimpArgs false
set_option linter.unusedVariables false
variable {G : Nat → Option (List V)}

/-- What a call answers of the memory that it made, as it is shown to who called. -/
def Says (C : Cfg) (call : FuncId → List V → M V) (f : FuncId) (bs : List V) (P : V → Prop) : Prop := ∀ ok, Run (call f bs) Heap.empty fun v H' => ∃ r, thawV ok H' v = some r ∧ P r
theorem Run.ans {C : Cfg} {call : FuncId → List V → M V} {f : FuncId} {args bs : List V} {P : V → Prop} {H : Heap} {Q : V → Heap → Prop} (hk : C.kind f = .pure) (ha : args.mapM (thawV true H) = some bs)
    (h : Says C call f bs P) (q : ∀ r, P r → Q r H) : Run (callV C call f args) H Q := by
  obtain ⟨v, H', e, r, t, p⟩ := h (args.all V.closedV)
  exact ⟨r, H, callV_thaw hk ha ⟨v, H', e, t⟩, q r p⟩
theorem Says.eq {C : Cfg} {call : FuncId → List V → M V} {f : FuncId} {bs : List V} {P : V → Prop} (hk : C.kind f = .pure) (hb : bs.all V.closedV = true) (h : Says C call f bs P) : ∃ r, callV C call f bs = M.ret r ∧ P r :=
  callV_pureE hk hb (h true)
theorem _root_.Go.Fv.Own.thawV {H : Heap} {x : V} {sz : Nat} {rows : List (List V)} (h : Own H x sz rows) (hf : flatRows rows = true) (ok : Bool) : ∃ y, Fv.thawV ok H x = some y ∧ thaw2 ok H x = some y ∧ Sls y sz rows := by
  obtain ⟨y, e, s⟩ := h.thaw hf ok
  refine ⟨y, ?_, ?_, s⟩
  · rcases h with ⟨rfl | rfl, _⟩ | ⟨l, n, c, ex, b, rfl, _⟩ <;> exact e
  · rcases h with ⟨rfl | rfl, _⟩ | ⟨l, n, c, ex, b, rfl, _⟩ <;> exact e
theorem thaw2_nili (ok : Bool) (H : Heap) : thaw2 ok H .nili = some .nili := by simp [thaw2, thaw, V.flat]
theorem thaw2_nils (ok : Bool) (H : Heap) : thaw2 ok H .nils = some .nils := by simp [thaw2, thaw, V.flat]
theorem thaw2_err (ok : Bool) (H : Heap) (g : Nat) : thaw2 ok H (errV g) = some (errV g) := by simp [thaw2, thaw, V.flat, errV]
theorem thaw2_bool (ok : Bool) (H : Heap) (b : Bool) : thaw2 ok H (.bool b) = some (.bool b) := by simp [thaw2, thaw, V.flat]
theorem thaw2_int (ok : Bool) (H : Heap) (k : IntKind) (n : Int) : thaw2 ok H (.int k n) = some (.int k n) := by simp [thaw2, thaw, V.flat]
theorem thawV_tup {ok : Bool} {H : Heap} {l l' : List V} (h : l.mapM (thaw2 ok H) = some l') : thawV ok H (.tuple l) = some (.tuple l') := by simp [thawV, h]
theorem mapM2 {ok : Bool} {H : Heap} {a b a' b' : V} (ha : thaw2 ok H a = some a') (hb : thaw2 ok H b = some b') : [a, b].mapM (thaw2 ok H) = some [a', b'] := by simp [ha, hb]
theorem mapM3 {ok : Bool} {H : Heap} {a b c a' b' c' : V} (ha : thaw2 ok H a = some a') (hb : thaw2 ok H b = some b') (hc : thaw2 ok H c = some c') : [a, b, c].mapM (thaw2 ok H) = some [a', b', c'] := by simp [ha, hb, hc]

/-- The errors that the layer 8 lays. -/
structure TErrs (G : Nat → Option (List V)) : Prop where
  state : G 0 = some [errV 0]
  arg : G 1 = some [errV 1]
  range : G 2 = some [errV 2]

/-- Those of them that Set answers. -/
structure SErrs (G : Nat → Option (List V)) : Prop where
  state : G 0 = some [errV 0]
  arg : G 1 = some [errV 1]
theorem TErrs.s (h : TErrs G) : SErrs G := ⟨h.state, h.arg⟩
theorem Errs.s (h : Errs G) : SErrs G := ⟨h.state, h.arg⟩
theorem ts_len {n : Int} {k : Nat} (hk : n = k) {ts : List Tm} (h : TsOk n ts) : ts.length ≤ k := by
  have := nodup_lenI (n := k) h.nodup (fun x hx => by
    obtain ⟨t, ht, rfl⟩ := List.mem_map.1 hx
    have := h.mem t ht
    exact ⟨this.1, by rw [← hk]; exact this.2.1⟩)
  simpa using this
theorem ts_len8 {ts : List Tm} (h : TsOk 8 ts) : ts.length ≤ 8 := ts_len (k := 8) rfl h

def wo (ts : List Tm) (p : Int) : List Tm := ts.filter fun a => !decide (a.proc = p)
theorem without_spec (n : Nat) {x : V} {ts : List Tm} (hx : Sls x 2 (ts.map tmRow)) (hl : ts.length < big) (hr : ts.length * 16 ≤ room) (p : Int) {H : Heap} (hH : H.floor ≤ H.next) :
    Run (callV (cfg G) (sem (cfg G) (n + 4)) 68 [x, .int .i64 p]) H (New H 2 ((wo ts p).map tmRow)) := by
  refine callV_own rfl (mapM_closedV (by simp [hx.closedV, cI]) H) ?_
  rw [ferry_timer_without_eq]
  simp only [ferry_timer_without]
  (repeat' (first | (simp only [wp, extractV, exists_eq_left', if_true, if_false, ite_true, ite_false, reduceIte, Nat.reduceAdd, Nat.reduceLT, Nat.reduceLeDiff, Nat.reduceEqDiff]) | (with_reducible refine Run.gC ?_ ?_ <;> intro hb <;> try simp only [hb]) | (with_reducible refine Run.gG ?_ ?_ <;> intro hb <;> try simp only [hb]) | (with_reducible refine Run.gQ ?_ ?_ <;> intro hb <;> try simp only [hb])))
  refine (clone74 _ hx (flat_tm _) (by simpa using hr) (by exact Nat.zero_le _)).mono fun x' H1 ⟨o, f, l⟩ => ?_
  (repeat' (first | (simp only [wp, extractV, exists_eq_left', if_true, if_false, ite_true, ite_false, reduceIte, Nat.reduceAdd, Nat.reduceLT, Nat.reduceLeDiff, Nat.reduceEqDiff]) | (with_reducible refine Run.gC ?_ ?_ <;> intro hb <;> try simp only [hb]) | (with_reducible refine Run.gG ?_ ?_ <;> intro hb <;> try simp only [hb]) | (with_reducible refine Run.gQ ?_ ?_ <;> intro hb <;> try simp only [hb])))
  have hc : H1.blk 0 = some ⟨1, [[.int .i64 p]]⟩ := (f.old 0 (by exact Nat.lt_succ_self 0) id).trans (by rw [Heap.add_blk]; exact if_pos rfl)
  have hF : ∀ m, Asks G (n + 1 + m) (.fn 93 [.ptr 0 0 0]) 0 ⟨1, [[.int .i64 p]]⟩ (fun a => V.agg (tmRow a)) (fun a => decide (a.proc = p)) := fun m => by
    rw [Nat.add_right_comm]; exact without_asks (n + m) 0 p
  refine (deleteF_tm (n + 1) hF o hc (fun e => by have := l 0 e; have h1 : 1 ≤ 0 := this; omega) (Nat.lt_of_lt_of_le (by exact Nat.lt_succ_self 0) f.next) hl).mono fun y H2 ⟨o2, f2, l2⟩ => ?_
  (repeat' (first | (simp only [wp, extractV, exists_eq_left', if_true, if_false, ite_true, ite_false, reduceIte, Nat.reduceAdd, Nat.reduceLT, Nat.reduceLeDiff, Nat.reduceEqDiff]) | (with_reducible refine Run.gC ?_ ?_ <;> intro hb <;> try simp only [hb]) | (with_reducible refine Run.gG ?_ ?_ <;> intro hb <;> try simp only [hb]) | (with_reducible refine Run.gQ ?_ ?_ <;> intro hb <;> try simp only [hb])))
  exact o2.hand (flat_tm _) hH

def setT (ts : List Tm) (p d : Int) : List Tm := isort (wo ts p ++ [⟨p, d⟩])
theorem wo_len (ts : List Tm) (p : Int) : (wo ts p).length ≤ ts.length := List.length_filter_le _ _

theorem set_spec (hG : SErrs G) (n : Nat) {x : V} {ts : List Tm} (hx : Sls x 2 (ts.map tmRow)) (hl : ts.length ≤ big) (p d : Int) :
    Says (cfg G) (sem (cfg G) (n + 7)) 22 [x, .int .i64 p, .int .i64 d] fun r =>
      (TsOk 8 ts ∧ right 8 ⟨p, d⟩ ∧ ∃ y, r = .tuple [y, .nili] ∧ Sls y 2 ((setT ts p d).map tmRow)) ∨ (TsOk 8 ts ∧ ¬ right 8 ⟨p, d⟩ ∧ r = .tuple [.nils, errV 1]) ∨ (¬ TsOk 8 ts ∧ r = .tuple [.nils, errV 0]) := by
  intro ok
  rw [ferry_timer_Set_eq]
  simp only [ferry_timer_Set]
  have hg := good_spec (G := G) (n + 2) hx hl (k := 8) (Nat.le_refl _)
  by_cases hok : TsOk ((8 : Nat) : Int) ts
  · have h8 := ts_len (k := 8) rfl hok
    have hrow : ([.int .i64 p, .int .i64 d] : List V) = tmRow ⟨p, d⟩ := rfl
    have hg' : callV (cfg G) (sem (cfg G) (n + 2 + 4)) 66 [x, .int .i64 8] = M.ret (.bool true) := by
      have := hg; rw [decide_eq_true hok] at this; exact this
    by_cases hr : right 8 ⟨p, d⟩
    · (repeat' (first | (simp only [wp, extractV, exists_eq_left', if_true, if_false, ite_true, ite_false, reduceIte, Nat.reduceAdd, Nat.reduceLT, Nat.reduceLeDiff, Nat.reduceEqDiff, hg', buildV, fill, putRow, hrow, right_spec, decide_eq_true hr, tm_len, tm_take]) | (with_reducible refine Run.gC ?_ ?_ <;> intro hb <;> try simp only [hb]) | (with_reducible refine Run.gG ?_ ?_ <;> intro hb <;> try simp only [hb]) | (with_reducible refine Run.gQ ?_ ?_ <;> intro hb <;> try simp only [hb])))
      refine Run.qfresh (by exact Nat.zero_le _) (fun K2 _ hf => without_spec (n + 2) hx (by unfold big; omega) (by unfold room; omega) p hf) fun y H1 o f l => ?_
      have hn1 : 1 ≤ H1.next := f.next
      have hb0 : H1.blk 0 = some ⟨2, [tmRow ⟨p, d⟩]⟩ := (f.old 0 (by exact Nat.lt_succ_self 0) id).trans (by rw [Heap.set_blk]; exact if_pos rfl)
      have hw := wo_len ts p
      (repeat' (first | (simp only [wp, extractV, exists_eq_left', if_true, if_false, ite_true, ite_false, reduceIte, Nat.reduceAdd, Nat.reduceLT, Nat.reduceLeDiff, Nat.reduceEqDiff, hb0, tm_len, tm_take]) | (with_reducible refine Run.gC ?_ ?_ <;> intro hb <;> try simp only [hb]) | (with_reducible refine Run.gG ?_ ?_ <;> intro hb <;> try simp only [hb]) | (with_reducible refine Run.gQ ?_ ?_ <;> intro hb <;> try simp only [hb])))
      refine (Run.slice (n := 0)).2 ⟨[tmRow ⟨p, d⟩], rfl, ?_⟩
      have o2 : Own (H1.add ⟨2, [tmRow ⟨p, d⟩]⟩) y 2 ((wo ts p).map tmRow) := o.frame (Frame.add _ (fun _ => False)) fun _ _ h => h
      refine (Run.tapp (items := [tmRow ⟨p, d⟩]) (by show H1.floor ≤ H1.next + 1; rw [f.floor]; exact Nat.zero_le _) o2 (fun k hk => ?_) ?_ ?_).mono fun x' H3 ⟨o3, _, _⟩ => ?_
      · have h1 : 1 ≤ k := l k hk
        have h2 : k < H1.next := o.lt hk
        simp [visB, Heap.add_next, h1, h2]
      · simp [itemsV, visB, Heap.add_next, Heap.add_blk]
      · simp only [List.length_map, List.length_cons, List.length_nil]; unfold room; omega
      · have o4 : Own H3 x' 2 ((wo ts p ++ [(⟨p, d⟩ : Tm)]).map tmRow) := by rw [List.map_append]; exact o3
        refine (sortFunc_spec n o4 (by simp; omega)).mono fun _ H4 ⟨o5, _⟩ => ?_
        (repeat' (first | (simp only [wp, extractV, exists_eq_left', if_true, if_false, ite_true, ite_false, reduceIte, Nat.reduceAdd, Nat.reduceLT, Nat.reduceLeDiff, Nat.reduceEqDiff]) | (with_reducible refine Run.gC ?_ ?_ <;> intro hb <;> try simp only [hb]) | (with_reducible refine Run.gG ?_ ?_ <;> intro hb <;> try simp only [hb]) | (with_reducible refine Run.gQ ?_ ?_ <;> intro hb <;> try simp only [hb])))
        obtain ⟨w, _, hw2, hs⟩ := o5.thawV (flat_tm _) ok
        exact ⟨_, thawV_tup (mapM2 hw2 (thaw2_nili _ _)), .inl ⟨hok, hr, w, rfl, hs⟩⟩
    · (repeat' (first | (simp only [wp, extractV, exists_eq_left', if_true, if_false, ite_true, ite_false, reduceIte, Nat.reduceAdd, Nat.reduceLT, Nat.reduceLeDiff, Nat.reduceEqDiff, hg', buildV, fill, putRow, hrow, right_spec, decide_eq_false hr, tm_len, tm_take, glob_at hG.arg]) | (with_reducible refine Run.gC ?_ ?_ <;> intro hb <;> try simp only [hb]) | (with_reducible refine Run.gG ?_ ?_ <;> intro hb <;> try simp only [hb]) | (with_reducible refine Run.gQ ?_ ?_ <;> intro hb <;> try simp only [hb])))
      exact ⟨_, thawV_tup (mapM2 (thaw2_nils _ _) (thaw2_err _ _ _)), .inr (.inl ⟨hok, hr, rfl⟩)⟩
  · have hg' : callV (cfg G) (sem (cfg G) (n + 2 + 4)) 66 [x, .int .i64 8] = M.ret (.bool false) := by
      have := hg; rw [decide_eq_false hok] at this; exact this
    (repeat' (first | (simp only [wp, extractV, exists_eq_left', if_true, if_false, ite_true, ite_false, reduceIte, Nat.reduceAdd, Nat.reduceLT, Nat.reduceLeDiff, Nat.reduceEqDiff, hg', glob_at hG.state]) | (with_reducible refine Run.gC ?_ ?_ <;> intro hb <;> try simp only [hb]) | (with_reducible refine Run.gG ?_ ?_ <;> intro hb <;> try simp only [hb]) | (with_reducible refine Run.gQ ?_ ?_ <;> intro hb <;> try simp only [hb])))
    exact ⟨_, thawV_tup (mapM2 (thaw2_nils _ _) (thaw2_err _ _ _)), .inr (.inr ⟨hok, rfl⟩)⟩
end Go.Fv.Tr
