/-
  An op's line: the program's and the document's. By an AI agent; no person has read it.
-/
import Derived.Test.YtoogammidjhfgaaDoorFvSvB
set_option linter.unusedVariables false
set_option linter.unusedSimpArgs false
set_option linter.unusedSectionVars false
/-! An op's line: the program's and the document's. -/
namespace Go.Fv.Tr
open Go Go.Fv Go.Proofs
set_option linter.unusedSimpArgs false
set_option linter.unusedVariables false
variable {G : Nat → Option (List V)}

def Known (k : Int) : Prop := 1 ≤ k ∧ k ≤ 10
instance (k : Int) : Decidable (Known k) := by unfold Known; infer_instance
def wordL' : List (List UInt8) := [[102, 114, 97, 109, 101], [109, 111, 118, 101], [97, 98, 111, 114, 116], [99, 114, 97, 115, 104], [117, 112], [100, 101, 108, 105, 118, 101, 114], [99, 111, 112, 121], [100, 114, 111, 112], [116, 114, 105, 109], [102, 108, 105, 112]]
def wordK (k : Int) : List UInt8 := if Known k then wordL'.getD (k.toNat - 1) [] else [111, 112]
def cntK (k : Int) : Nat := if Known k then [0, 1, 1, 1, 1, 1, 1, 1, 2, 3].getD (k.toNat - 1) 0 else 1
def manyK (k : Int) : Int := if Known k then (cntK k : Int) else -1
theorem ten {k : Int} (h : Known k) : k = 1 ∨ k = 2 ∨ k = 3 ∨ k = 4 ∨ k = 5 ∨ k = 6 ∨ k = 7 ∨ k = 8 ∨ k = 9 ∨ k = 10 := by unfold Known at h; omega
theorem nten {k j : Int} (h : ¬ Known k) (h1 : 1 ≤ j) (h2 : j ≤ 10) : (k == j) = false := beq_eq_false_iff_ne.2 fun e => h (by unfold Known; omega)
theorem wordK_len (k : Int) : (wordK k).length ≤ 7 := by
  by_cases h : Known k
  · rcases ten h with rfl | rfl | rfl | rfl | rfl | rfl | rfl | rfl | rfl | rfl <;> decide
  · rw [wordK, if_neg h]; decide
theorem cntK_le (k : Int) : cntK k ≤ 3 := by
  by_cases h : Known k
  · rcases ten h with rfl | rfl | rfl | rfl | rfl | rfl | rfl | rfl | rfl | rfl <;> decide
  · rw [cntK, if_neg h]; decide
set_option maxRecDepth 100000 in
theorem shape_spec (n : Nat) (k : Int) : callV (cfg G) (sem (cfg G) (n + 1)) 137 [.int .i64 k] = M.ret (.agg [.str (bs (wordK k)), .int .i64 (cntK k : Nat)]) := by
  by_cases h : Known k
  · rcases ten h with rfl | rfl | rfl | rfl | rfl | rfl | rfl | rfl | rfl | rfl <;> exact callV_pure0 rfl rfl rfl (run_of_plays (fuel := 10) (by kernel_rfl))
  · refine callV_pure0 rfl rfl rfl ?_
    rw [ferry_text_shapeOf_eq]
    simp only [ferry_text_shapeOf]
    (repeat' (first | (simp only [wp, extractV, exists_eq_left', if_true, if_false, ite_true, ite_false, reduceIte, Nat.reduceAdd, Nat.reduceLT, Nat.reduceLeDiff, Nat.reduceEqDiff, nten h (j := 1) (by decide) (by decide), nten h (j := 2) (by decide) (by decide), nten h (j := 3) (by decide) (by decide), nten h (j := 4) (by decide) (by decide), nten h (j := 5) (by decide) (by decide), nten h (j := 6) (by decide) (by decide), nten h (j := 7) (by decide) (by decide), nten h (j := 8) (by decide) (by decide), nten h (j := 9) (by decide) (by decide), nten h (j := 10) (by decide) (by decide), buildV, fill, putRow, tupV]) | (with_reducible refine Run.gC ?_ ?_ <;> intro hb <;> try simp only [hb]) | (with_reducible refine Run.gG ?_ ?_ <;> intro hb <;> try simp only [hb]) | (with_reducible refine Run.gQ ?_ ?_ <;> intro hb <;> try simp only [hb])))
    rw [wordK, if_neg h, cntK, if_neg h]
    rfl
set_option maxRecDepth 100000 in
theorem refWordK_spec (n : Nat) (k : Int) : callV (cfg G) (sem (cfg G) (n + 1)) 149 [.int .i64 k] = M.ret (.str (bs (wordK k))) := by
  by_cases h : Known k
  · rcases ten h with rfl | rfl | rfl | rfl | rfl | rfl | rfl | rfl | rfl | rfl <;> exact callV_pure0 rfl rfl rfl (run_of_plays (fuel := 10) (by kernel_rfl))
  · refine callV_pure0 rfl rfl rfl ?_
    rw [ferry_ferryref25_Word_eq]
    simp only [ferry_ferryref25_Word]
    (repeat' (first | (simp only [wp, extractV, exists_eq_left', if_true, if_false, ite_true, ite_false, reduceIte, Nat.reduceAdd, Nat.reduceLT, Nat.reduceLeDiff, Nat.reduceEqDiff, nten h (j := 1) (by decide) (by decide), nten h (j := 2) (by decide) (by decide), nten h (j := 3) (by decide) (by decide), nten h (j := 4) (by decide) (by decide), nten h (j := 5) (by decide) (by decide), nten h (j := 6) (by decide) (by decide), nten h (j := 7) (by decide) (by decide), nten h (j := 8) (by decide) (by decide), nten h (j := 9) (by decide) (by decide), nten h (j := 10) (by decide) (by decide)]) | (with_reducible refine Run.gC ?_ ?_ <;> intro hb <;> try simp only [hb]) | (with_reducible refine Run.gG ?_ ?_ <;> intro hb <;> try simp only [hb]) | (with_reducible refine Run.gQ ?_ ?_ <;> intro hb <;> try simp only [hb])))
    rw [wordK, if_neg h]
    rfl
set_option maxRecDepth 100000 in
theorem refMany_spec (n : Nat) (k : Int) : callV (cfg G) (sem (cfg G) (n + 1)) 150 [.int .i64 k] = M.ret (.int .i64 (manyK k)) := by
  by_cases h : Known k
  · rcases ten h with rfl | rfl | rfl | rfl | rfl | rfl | rfl | rfl | rfl | rfl <;> exact callV_pure0 rfl rfl rfl (run_of_plays (fuel := 10) (by kernel_rfl))
  · refine callV_pure0 rfl rfl rfl ?_
    rw [ferry_ferryref25_Many_eq]
    simp only [ferry_ferryref25_Many, ferry_ferryref25_Many_j1]
    (repeat' (first | (simp only [wp, extractV, exists_eq_left', if_true, if_false, ite_true, ite_false, reduceIte, Nat.reduceAdd, Nat.reduceLT, Nat.reduceLeDiff, Nat.reduceEqDiff, nten h (j := 1) (by decide) (by decide), nten h (j := 2) (by decide) (by decide), nten h (j := 3) (by decide) (by decide), nten h (j := 4) (by decide) (by decide), nten h (j := 5) (by decide) (by decide), nten h (j := 6) (by decide) (by decide), nten h (j := 7) (by decide) (by decide), nten h (j := 8) (by decide) (by decide), nten h (j := 9) (by decide) (by decide), nten h (j := 10) (by decide) (by decide)]) | (with_reducible refine Run.gC ?_ ?_ <;> intro hb <;> try simp only [hb]) | (with_reducible refine Run.gG ?_ ?_ <;> intro hb <;> try simp only [hb]) | (with_reducible refine Run.gQ ?_ ?_ <;> intro hb <;> try simp only [hb])))
    rw [manyK, if_neg h]
theorem known_spec (n : Nat) (k : Int) : callV (cfg G) (sem (cfg G) (n + 1)) 174 [.int .i64 k] = M.ret (.bool (decide (Known k))) := by
  refine callV_pure0 rfl rfl rfl ?_
  rw [ferry_text_known_eq]
  simp only [ferry_text_known]
  by_cases h1 : 1 ≤ k
  · have e1 : decide (1 ≤ k) = true := decide_eq_true h1
    have e : decide (Known k) = decide (k ≤ 10) := by simp [Known, h1]
    rw [e]
    (repeat' (first | (simp only [wp, extractV, exists_eq_left', if_true, if_false, ite_true, ite_false, reduceIte, Nat.reduceAdd, Nat.reduceLT, Nat.reduceLeDiff, Nat.reduceEqDiff, e1]) | (with_reducible refine Run.gC ?_ ?_ <;> intro hb <;> try simp only [hb]) | (with_reducible refine Run.gG ?_ ?_ <;> intro hb <;> try simp only [hb]) | (with_reducible refine Run.gQ ?_ ?_ <;> intro hb <;> try simp only [hb])))
  · have e1 : decide (1 ≤ k) = false := decide_eq_false h1
    have e : decide (Known k) = false := decide_eq_false fun h => h1 h.1
    rw [e]
    (repeat' (first | (simp only [wp, extractV, exists_eq_left', if_true, if_false, ite_true, ite_false, reduceIte, Nat.reduceAdd, Nat.reduceLT, Nat.reduceLeDiff, Nat.reduceEqDiff, e1]) | (with_reducible refine Run.gC ?_ ?_ <;> intro hb <;> try simp only [hb]) | (with_reducible refine Run.gG ?_ ?_ <;> intro hb <;> try simp only [hb]) | (with_reducible refine Run.gQ ?_ ?_ <;> intro hb <;> try simp only [hb])))

/-- Where the numbers of an op's line stand. -/
def offs (k : Int) : List Nat := if Known k then [1, 2, 3].take (cntK k) else [0]
def q4L (o : Q4) : List Int := [o.a, o.b, o.c, o.d]
def numsO (o : Q4) : List Int := (offs o.a).map fun j => (q4L o).getD j 0
def opW (o : Q4) : List (List UInt8) := wordK o.a :: (numsO o).map Go.Lib.itoa
def opL (o : Q4) : List UInt8 := lineL (opW o)
theorem offs_lt {k : Int} {j : Nat} (h : j ∈ offs k) : j < 4 := by
  unfold offs at h
  split at h
  · have := List.mem_of_mem_take h
    simp at this
    omega
  · simp at h; omega
theorem offs_len (k : Int) : (offs k).length ≤ 3 := by
  unfold offs
  split
  · rw [List.length_take]; simp; omega
  · simp
theorem fields_run (n : Nat) {H : Heap} {l : Nat} {o : Q4} (hb : H.blk l = some ⟨4, [q4R o]⟩) (hl : l < H.next) :
    Run (callV (cfg G) (sem (cfg G) (n + 2)) 138 [.ptr l 0 0]) H fun v H' => Frame H H' (fun _ => False) ∧ Rd H' v 1 ((offs o.a).map fun j => [V.ptr l 0 j]) ∧ ∀ m, loc v = some m → H.next ≤ m := by
  rw [callV_inl rfl, ferry_text_fields_eq]
  simp only [ferry_text_fields]
  have r0 : (q4R o)[0]? = some (.int .i64 o.a) := rfl
  have nc : nilCheckV (.ptr l 0 0) = some (.ptr l 0 0) := rfl
  by_cases hk : Known o.a
  · (repeat' (first | (simp only [wp, extractV, exists_eq_left', if_true, if_false, ite_true, ite_false, reduceIte, Nat.reduceAdd, Nat.reduceLT, Nat.reduceLeDiff, Nat.reduceEqDiff, nc, hb, r0, known_spec n, decide_eq_true hk, Run.slice]) | (with_reducible refine Run.gC ?_ ?_ <;> intro hb <;> try simp only [hb]) | (with_reducible refine Run.gG ?_ ?_ <;> intro hb <;> try simp only [hb]) | (with_reducible refine Run.gQ ?_ ?_ <;> intro hb <;> try simp only [hb])))
    refine ⟨[[.ptr l 0 1], [.ptr l 0 2], [.ptr l 0 3]], rfl, ?_⟩
    have c3 := cntK_le o.a
    have es : slV 1 (.ref H.next 1 0 3 3 true) none (some (.int .i64 (cntK o.a : Nat))) none = some (.ref H.next 1 0 (cntK o.a) 3 true) := by
      have hn : natOf (.int .i64 (cntK o.a : Nat)) = some (cntK o.a) := by simp [natOf]
      simp only [slV, optNat, hn, Option.bind_some, Nat.sub_zero, Nat.add_zero]
      rw [if_pos ⟨trivial, Nat.zero_le _, c3⟩]
    have fe : ∀ w, fieldV 1 1 false (.agg [.str w, .int .i64 (cntK o.a : Nat)]) = some (.int .i64 (cntK o.a : Nat)) := fun w => rfl
    have nl : ¬ (l = H.next) := by omega
    (repeat' (first | (simp only [wp, extractV, exists_eq_left', if_true, if_false, ite_true, ite_false, reduceIte, Nat.reduceAdd, Nat.reduceLT, Nat.reduceLeDiff, Nat.reduceEqDiff, nl, r0, shape_spec n, fe, es, nc]) | (with_reducible refine Run.gC ?_ ?_ <;> intro hb <;> try simp only [hb]) | (with_reducible refine Run.gG ?_ ?_ <;> intro hb <;> try simp only [hb]) | (with_reducible refine Run.gQ ?_ ?_ <;> intro hb <;> try simp only [hb])))
    refine ⟨(Frame.add _ _).trans (Frame.q _ _) (fun _ _ h => h) (fun _ _ h => h), .inr ⟨H.next, 0, cntK o.a, 3, true, ⟨1, [[.ptr l 0 1], [.ptr l 0 2], [.ptr l 0 3]]⟩, rfl, ?_, Nat.lt_succ_self _, by simpa using c3, ?_⟩, fun m e => by cases e; exact Nat.le_refl _⟩
    · rw [Heap.q_blk]
      exact (if_pos (Nat.lt_succ_self _)).trans (if_pos rfl)
    · rw [offs, if_pos hk, List.map_take]
      rfl
  · (repeat' (first | (simp only [wp, extractV, exists_eq_left', if_true, if_false, ite_true, ite_false, reduceIte, Nat.reduceAdd, Nat.reduceLT, Nat.reduceLeDiff, Nat.reduceEqDiff, nc, hb, r0, known_spec n, decide_eq_false hk, Run.slice]) | (with_reducible refine Run.gC ?_ ?_ <;> intro hb <;> try simp only [hb]) | (with_reducible refine Run.gG ?_ ?_ <;> intro hb <;> try simp only [hb]) | (with_reducible refine Run.gQ ?_ ?_ <;> intro hb <;> try simp only [hb])))
    refine ⟨[[.ptr l 0 0]], rfl, ?_⟩
    (repeat' (first | (simp only [wp, extractV, exists_eq_left', if_true, if_false, ite_true, ite_false, reduceIte, Nat.reduceAdd, Nat.reduceLT, Nat.reduceLeDiff, Nat.reduceEqDiff]) | (with_reducible refine Run.gC ?_ ?_ <;> intro hb <;> try simp only [hb]) | (with_reducible refine Run.gG ?_ ?_ <;> intro hb <;> try simp only [hb]) | (with_reducible refine Run.gQ ?_ ?_ <;> intro hb <;> try simp only [hb])))
    refine ⟨Frame.add _ _, .inr ⟨H.next, 0, 1, 1, true, ⟨1, [[.ptr l 0 0]]⟩, rfl, if_pos rfl, Nat.lt_succ_self _, Nat.le_refl _, ?_⟩, fun m e => by cases e; exact Nat.le_refl _⟩
    rw [offs, if_neg hk]
    rfl

theorem q4_at {o : Q4} {j : Nat} (h : j < 4) : (q4R o)[j]? = some (.int .i64 ((q4L o).getD j 0)) := by
  have : j = 0 ∨ j = 1 ∨ j = 2 ∨ j = 3 := by omega
  rcases this with rfl | rfl | rfl | rfl <;> rfl
def Rng (o : Q4) : Prop := ∀ j, inR ((q4L o).getD j 0)
theorem numsO_in {o : Q4} (h : Rng o) : ∀ m ∈ numsO o, inR m := fun m hm => by
  obtain ⟨j, _, rfl⟩ := List.mem_map.1 hm
  exact h j
theorem numsO_len (o : Q4) : (numsO o).length ≤ 3 := by
  rw [numsO, List.length_map]; exact offs_len _
theorem lens_le {ws : List (List UInt8)} {b : Nat} (h : ∀ w ∈ ws, w.length ≤ b) : Go.Lib.lens ws ≤ ws.length * b := by
  induction ws with
  | nil => simp [Go.Lib.lens]
  | cons w ws ih =>
    have h1 := h w (by simp)
    have h2 := ih fun w hw => h w (by simp [hw])
    simp only [Go.Lib.lens, List.map_cons, List.sum_cons, List.length_cons] at h2 ⊢
    rw [Nat.succ_mul]
    omega
theorem lineL_len {ws : List (List UInt8)} {b : Nat} (h : ∀ w ∈ ws, w.length ≤ b) : (lineL ws).length ≤ ws.length * (b + 1) := by
  cases ws with
  | nil => simp [lineL, Go.Lib.join_nil]
  | cons w ws =>
    have h1 := lens_le h
    rw [lineL, Go.Lib.join_length]
    simp only [List.length_cons, List.length_nil] at h1 ⊢
    rw [Nat.mul_succ]
    omega
theorem itoa_le {m : Int} (h : inR m) : (Go.Lib.itoa m).length ≤ 20 := itoa_len h.1 h.2
theorem opW_le {o : Q4} (h : Rng o) : ∀ w ∈ opW o, w.length ≤ 20 := fun w hw => by
  rcases List.mem_cons.1 hw with rfl | hw
  · have := wordK_len o.a; omega
  · obtain ⟨m, hm, rfl⟩ := List.mem_map.1 hw
    exact itoa_le (numsO_in h m hm)
theorem opW_len (o : Q4) : (opW o).length ≤ 4 := by
  have := numsO_len o
  simp [opW]; omega
theorem opL_len {o : Q4} (h : Rng o) : (opL o).length ≤ 84 := by
  have h1 := lineL_len (opW_le h)
  have h2 := opW_len o
  have : (opW o).length * 21 ≤ 4 * 21 := Nat.mul_le_mul_right _ h2
  exact Nat.le_trans h1 (by omega)

theorem printOp_spec (hG : tabOf G = true) (n : Nat) {o : Q4} (h : Rng o) : callV (cfg G) (sem (cfg G) (n + 4)) 83 [.agg (q4R o)] = M.ret (.str (bs (opL o))) := by
  refine callV_pure0 rfl rfl rfl ?_
  rw [ferry_text_PrintOp_eq]
  simp only [ferry_text_PrintOp]
  have hr : room = 140737488355328 := rfl
  have r0 : (q4R o)[0]? = some (.int .i64 o.a) := rfl
  have fe : ∀ (w : ByteArray) (c : V), fieldV 0 1 false (.agg [.str w, c]) = some (.str w) := fun _ _ => rfl
  have r4 : (q4R o).length = 4 := rfl
  (repeat' (first | (simp only [wp, extractV, exists_eq_left', if_true, if_false, ite_true, ite_false, reduceIte, Nat.reduceAdd, Nat.reduceLT, Nat.reduceLeDiff, Nat.reduceEqDiff, r0, shape_spec (n + 2), fe, Run.slice, r4]) | (with_reducible refine Run.gC ?_ ?_ <;> intro hb <;> try simp only [hb]) | (with_reducible refine Run.gG ?_ ?_ <;> intro hb <;> try simp only [hb]) | (with_reducible refine Run.gQ ?_ ?_ <;> intro hb <;> try simp only [hb])))
  refine ⟨[[.str (bs (wordK o.a))]], rfl, ?_⟩
  have hb0 : ((Heap.empty.add ⟨4, [q4R o]⟩).add ⟨1, [[.str (bs (wordK o.a))]]⟩).blk 0 = some ⟨4, [q4R o]⟩ := rfl
  (repeat' (first | (simp only [wp, extractV, exists_eq_left', if_true, if_false, ite_true, ite_false, reduceIte, Nat.reduceAdd, Nat.reduceLT, Nat.reduceLeDiff, Nat.reduceEqDiff]) | (with_reducible refine Run.gC ?_ ?_ <;> intro hb <;> try simp only [hb]) | (with_reducible refine Run.gG ?_ ?_ <;> intro hb <;> try simp only [hb]) | (with_reducible refine Run.gQ ?_ ?_ <;> intro hb <;> try simp only [hb])))
  refine (fields_run (n + 1) hb0 (by show 0 < 2; omega)).mono fun v H1 ⟨f1, r1, g1⟩ => ?_
  have hf1 : H1.floor = 0 := f1.floor
  have hb1 : H1.blk 0 = some ⟨4, [q4R o]⟩ := (f1.old 0 (by show 0 < 2; omega) id).trans hb0
  have n1 : 2 ≤ H1.next := f1.next
  have ow : Own H1 (.ref 1 1 0 1 1 true) 1 ([wordK o.a].map stB) := by
    have : Own ((Heap.empty.add ⟨4, [q4R o]⟩).add ⟨1, [[.str (bs (wordK o.a))]]⟩) (.ref 1 1 0 1 1 true) 1 ([wordK o.a].map stB) := Own.new (H := Heap.empty.add ⟨4, [q4R o]⟩) (sz := 1) (Nat.zero_le _) ([wordK o.a].map stB) true
    exact this.frame f1 fun _ _ => id
  have lv := r1.len
  rw [List.length_map] at lv
  have l3 := offs_len o.a
  (repeat' (first | (simp only [wp, extractV, exists_eq_left', if_true, if_false, ite_true, ite_false, reduceIte, Nat.reduceAdd, Nat.reduceLT, Nat.reduceLeDiff, Nat.reduceEqDiff, lv]) | (with_reducible refine Run.gC ?_ ?_ <;> intro hb <;> try simp only [hb]) | (with_reducible refine Run.gG ?_ ?_ <;> intro hb <;> try simp only [hb]) | (with_reducible refine Run.gQ ?_ ?_ <;> intro hb <;> try simp only [hb])))
  refine Run.loop (N := (offs o.a).length) (fun k st H => ∃ y, st = [y, .int .i64 (k : Nat)] ∧ Own H y 1 ((wordK o.a :: ((numsO o).take k).map Go.Lib.itoa).map stB) ∧ (∀ m, loc y = some m → 1 ≤ m ∧ (m = 1 ∨ H1.next ≤ m)) ∧ H.floor = 0 ∧ H.blk 0 = some ⟨4, [q4R o]⟩ ∧ Rd H v 1 ((offs o.a).map fun j => [V.ptr 0 0 j]) ∧ H1.next ≤ H.next)
    ⟨_, rfl, ow, fun m e => by cases e; exact ⟨Nat.le_refl _, .inl rfl⟩, hf1, hb1, r1, Nat.le_refl _⟩ ?_
  rintro k st H hk ⟨y, rfl, oy, ly, hf, hb, rv, hn⟩
  simp only [ferry_text_PrintOp_l1]
  have nl : (numsO o).length = (offs o.a).length := List.length_map _
  by_cases hlt : k < (offs o.a).length
  · obtain ⟨p, ip, wp1, _⟩ := rv.idx (k := .i64) (i := k) (by rw [List.length_map]; exact hlt)
    simp only [List.getElem_map] at wp1
    have ld : ∀ Q, Run (load1 p) H Q ↔ Q (.ptr 0 0 (offs o.a)[k]) H := fun Q => Run.loadAt wp1 rfl
    have hj := offs_lt (List.getElem_mem hlt)
    have nc : nilCheckV (.ptr 0 0 (offs o.a)[k]) = some (.ptr 0 0 (offs o.a)[k]) := rfl
    have hin := h (offs o.a)[k]
    have hkn : k < (numsO o).length := by omega
    have en : (numsO o)[k] = (q4L o).getD (offs o.a)[k] 0 := by simp [numsO]
    (repeat' (first | (simp only [wp, extractV, exists_eq_left', if_true, if_false, ite_true, ite_false, reduceIte, Nat.reduceAdd, Nat.reduceLT, Nat.reduceLeDiff, Nat.reduceEqDiff, nltT hlt, ip, ld, nc, hb, q4_at hj, num_spec hG (n + 1) hin, Run.slice]) | (with_reducible refine Run.gC ?_ ?_ <;> intro hb <;> try simp only [hb]) | (with_reducible refine Run.gG ?_ ?_ <;> intro hb <;> try simp only [hb]) | (with_reducible refine Run.gQ ?_ ?_ <;> intro hb <;> try simp only [hb])))
    refine ⟨[stB (Go.Lib.itoa ((q4L o).getD (offs o.a)[k] 0))], rfl, ?_⟩
    refine (Run.app (bytes := 16) (items := [stB (Go.Lib.itoa ((q4L o).getD (offs o.a)[k] 0))]) (by rw [Heap.add_floor, hf]; exact Nat.zero_le _) (oy.frame (Frame.add _ (fun _ => False)) (fun _ _ => id)) (by simp [itemsV, Heap.add_blk]) (by simp only [List.length_map, List.length_cons, List.length_nil, List.length_take]; omega)).mono fun y' H' ⟨o', f', l'⟩ => ?_
    have hlv : ∀ m, loc v = some m → ¬ (loc y = some m) := fun m e e2 => by
      have a1 := g1 m e
      have a2 := r1.lt e
      rcases (ly m e2).2 with h | h
      · have : 2 ≤ m := a1
        omega
      · omega
    (repeat' (first | (simp only [wp, extractV, exists_eq_left', if_true, if_false, ite_true, ite_false, reduceIte, Nat.reduceAdd, Nat.reduceLT, Nat.reduceLeDiff, Nat.reduceEqDiff, nadd hlt (show (offs o.a).length ≤ 9223372036854775807 by omega)]) | (with_reducible refine Run.gC ?_ ?_ <;> intro hb <;> try simp only [hb]) | (with_reducible refine Run.gG ?_ ?_ <;> intro hb <;> try simp only [hb]) | (with_reducible refine Run.gQ ?_ ?_ <;> intro hb <;> try simp only [hb])))
    refine ⟨hlt, y', rfl, ?_, fun m e => ?_, f'.floor.trans hf, ?_, (rv.frame (Frame.add _ (fun _ => False)) (fun _ _ => id)).frame f' hlv, ?_⟩
    · rw [List.take_succ_eq_append_getElem hkn, List.map_append, en]
      have := o'
      simpa using this
    · rcases l' m e with h | h
      · exact ly m h
      · have : H.next + 1 ≤ m := h
        omega
    · rw [f'.old 0 (by show 0 < H.next + 1; omega) (fun e => by have := (ly 0 e).1; omega), Heap.add_blk, if_neg (by omega)]
      exact hb
    · have : H.next + 1 ≤ H'.next := f'.next
      omega
  · have hke : k = (numsO o).length := by omega
    rw [hke, List.take_length] at oy
    have h84 := opL_len h
    (repeat' (first | (simp only [wp, extractV, exists_eq_left', if_true, if_false, ite_true, ite_false, reduceIte, Nat.reduceAdd, Nat.reduceLT, Nat.reduceLeDiff, Nat.reduceEqDiff, nltF hlt]) | (with_reducible refine Run.gC ?_ ?_ <;> intro hb <;> try simp only [hb]) | (with_reducible refine Run.gG ?_ ?_ <;> intro hb <;> try simp only [hb]) | (with_reducible refine Run.gQ ?_ ?_ <;> intro hb <;> try simp only [hb])))
    refine line_run (n + 2) (ws := opW o) oy.rd (by simp [opW]) (by have := opW_len o; omega) (by show (opL o).length ≤ room; omega) ?_
    (repeat' (first | (simp only [wp, extractV, exists_eq_left', if_true, if_false, ite_true, ite_false, reduceIte, Nat.reduceAdd, Nat.reduceLT, Nat.reduceLeDiff, Nat.reduceEqDiff]) | (with_reducible refine Run.gC ?_ ?_ <;> intro hb <;> try simp only [hb]) | (with_reducible refine Run.gG ?_ ?_ <;> intro hb <;> try simp only [hb]) | (with_reducible refine Run.gQ ?_ ?_ <;> intro hb <;> try simp only [hb])))
    rfl

def spc : List UInt8 := [32]
theorem spc_len : spc.length = 1 := rfl
theorem sp_bs : (⟨#[32]⟩ : ByteArray) = bs spc := rfl
theorem refPrintOp_spec (n : Nat) {o : Q4} (h : Rng o) : callV (cfg G) (sem (cfg G) (n + 2)) 91 [.agg (q4R o)] = M.ret (.str (bs (opL o))) := by
  refine callV_pure0 rfl rfl rfl ?_
  rw [ferry_ferryref25_PrintOp_eq]
  simp only [ferry_ferryref25_PrintOp]
  have r0 : (q4R o)[0]? = some (.int .i64 o.a) := rfl
  have r1 : (q4R o)[1]? = some (.int .i64 o.b) := rfl
  have r2 : (q4R o)[2]? = some (.int .i64 o.c) := rfl
  have r3 : (q4R o)[3]? = some (.int .i64 o.d) := rfl
  have r4 : (q4R o).length = 4 := rfl
  have ha := number_spec (G := G) n (h 0)
  have hb := number_spec (G := G) n (h 1)
  have hc := number_spec (G := G) n (h 2)
  have hd := number_spec (G := G) n (h 3)
  have la := itoa_le (h 0)
  have lb := itoa_le (h 1)
  have lc := itoa_le (h 2)
  have ld := itoa_le (h 3)
  have lw := wordK_len o.a
  have ea : (q4L o).getD 0 0 = o.a := rfl
  have eb : (q4L o).getD 1 0 = o.b := rfl
  have ec : (q4L o).getD 2 0 = o.c := rfl
  have ed : (q4L o).getD 3 0 = o.d := rfl
  rw [ea] at ha la
  rw [eb] at hb lb
  rw [ec] at hc lc
  rw [ed] at hd ld
  rw [itoaB_bs] at ha hb hc hd
  have L : ∀ {x y : List UInt8}, x.length + y.length ≤ 200 → arithV .add (.str (bs x)) (.str (bs y)) = some (.str (bs (x ++ y))) := fun h => str_add (by omega)
  have j1 : ∀ x : List UInt8, lineL [wordK o.a, x] = wordK o.a ++ (spc ++ x) := fun x => by simp [lineL, Go.Lib.join_cons, Go.Lib.joinTail, spc]
  have j2 : ∀ x y : List UInt8, lineL [wordK o.a, x, y] = wordK o.a ++ (spc ++ x ++ spc ++ y) := fun x y => by simp [lineL, Go.Lib.join_cons, Go.Lib.joinTail, spc]
  have j3 : ∀ x y z : List UInt8, lineL [wordK o.a, x, y, z] = wordK o.a ++ (spc ++ x ++ spc ++ y ++ spc ++ z) := fun x y z => by simp [lineL, Go.Lib.join_cons, Go.Lib.joinTail, spc]
  have key : (manyK o.a = -1 ∧ offs o.a = [0]) ∨ (manyK o.a = 0 ∧ offs o.a = []) ∨ (manyK o.a = 1 ∧ offs o.a = [1]) ∨ (manyK o.a = 2 ∧ offs o.a = [1, 2]) ∨ (manyK o.a = 3 ∧ offs o.a = [1, 2, 3]) := by
    by_cases hk : Known o.a
    · rcases ten hk with e | e | e | e | e | e | e | e | e | e <;> rw [e] <;> decide
    · exact .inl ⟨if_neg hk, if_neg hk⟩
  rcases key with ⟨em, eo⟩ | ⟨em, eo⟩ | ⟨em, eo⟩ | ⟨em, eo⟩ | ⟨em, eo⟩
  · have eL : opL o = wordK o.a ++ (spc ++ Go.Lib.itoa o.a) := by rw [opL, opW, numsO, eo]; exact j1 _
    have s0 := L (x := spc) (y := Go.Lib.itoa o.a) (by simp only [List.length_append, spc_len]; omega)
    have s1 := L (x := wordK o.a) (y := spc ++ Go.Lib.itoa o.a) (by simp only [List.length_append, spc_len]; omega)
    (repeat' (first | (simp only [wp, extractV, exists_eq_left', if_true, if_false, ite_true, ite_false, reduceIte, Nat.reduceAdd, Nat.reduceLT, Nat.reduceLeDiff, Nat.reduceEqDiff, r0, r4, refWordK_spec n, refMany_spec n, em, Int.reduceNeg, Int.reduceBEq, beq_self_eq_true, ha, sp_bs, s0, s1]) | (with_reducible refine Run.gC ?_ ?_ <;> intro hb <;> try simp only [hb]) | (with_reducible refine Run.gG ?_ ?_ <;> intro hb <;> try simp only [hb]) | (with_reducible refine Run.gQ ?_ ?_ <;> intro hb <;> try simp only [hb])))
    rw [eL]
  · have eL : opL o = wordK o.a := by rw [opL, opW, numsO, eo]; exact Go.Lib.join_one _ _
    (repeat' (first | (simp only [wp, extractV, exists_eq_left', if_true, if_false, ite_true, ite_false, reduceIte, Nat.reduceAdd, Nat.reduceLT, Nat.reduceLeDiff, Nat.reduceEqDiff, r0, r4, refWordK_spec n, refMany_spec n, em, Int.reduceNeg, Int.reduceBEq, beq_self_eq_true]) | (with_reducible refine Run.gC ?_ ?_ <;> intro hb <;> try simp only [hb]) | (with_reducible refine Run.gG ?_ ?_ <;> intro hb <;> try simp only [hb]) | (with_reducible refine Run.gQ ?_ ?_ <;> intro hb <;> try simp only [hb])))
    rw [eL]
  · have eL : opL o = wordK o.a ++ (spc ++ Go.Lib.itoa o.b) := by rw [opL, opW, numsO, eo]; exact j1 _
    have s0 := L (x := spc) (y := Go.Lib.itoa o.b) (by simp only [List.length_append, spc_len]; omega)
    have s1 := L (x := wordK o.a) (y := spc ++ Go.Lib.itoa o.b) (by simp only [List.length_append, spc_len]; omega)
    (repeat' (first | (simp only [wp, extractV, exists_eq_left', if_true, if_false, ite_true, ite_false, reduceIte, Nat.reduceAdd, Nat.reduceLT, Nat.reduceLeDiff, Nat.reduceEqDiff, r0, r1, r4, refWordK_spec n, refMany_spec n, em, Int.reduceNeg, Int.reduceBEq, beq_self_eq_true, hb, sp_bs, s0, s1]) | (with_reducible refine Run.gC ?_ ?_ <;> intro hb <;> try simp only [hb]) | (with_reducible refine Run.gG ?_ ?_ <;> intro hb <;> try simp only [hb]) | (with_reducible refine Run.gQ ?_ ?_ <;> intro hb <;> try simp only [hb])))
    rw [eL]
  · have eL : opL o = wordK o.a ++ (spc ++ Go.Lib.itoa o.b ++ spc ++ Go.Lib.itoa o.c) := by rw [opL, opW, numsO, eo]; exact j2 _ _
    have s0 := L (x := spc) (y := Go.Lib.itoa o.b) (by simp only [List.length_append, spc_len]; omega)
    have s1 := L (x := spc ++ Go.Lib.itoa o.b) (y := spc) (by simp only [List.length_append, spc_len]; omega)
    have s2 := L (x := spc ++ Go.Lib.itoa o.b ++ spc) (y := Go.Lib.itoa o.c) (by simp only [List.length_append, spc_len]; omega)
    have s3 := L (x := wordK o.a) (y := spc ++ Go.Lib.itoa o.b ++ spc ++ Go.Lib.itoa o.c) (by simp only [List.length_append, spc_len]; omega)
    (repeat' (first | (simp only [wp, extractV, exists_eq_left', if_true, if_false, ite_true, ite_false, reduceIte, Nat.reduceAdd, Nat.reduceLT, Nat.reduceLeDiff, Nat.reduceEqDiff, r0, r1, r2, r4, refWordK_spec n, refMany_spec n, em, Int.reduceNeg, Int.reduceBEq, beq_self_eq_true, hb, hc, sp_bs, s0, s1, s2, s3]) | (with_reducible refine Run.gC ?_ ?_ <;> intro hb <;> try simp only [hb]) | (with_reducible refine Run.gG ?_ ?_ <;> intro hb <;> try simp only [hb]) | (with_reducible refine Run.gQ ?_ ?_ <;> intro hb <;> try simp only [hb])))
    rw [eL]
  · have eL : opL o = wordK o.a ++ (spc ++ Go.Lib.itoa o.b ++ spc ++ Go.Lib.itoa o.c ++ spc ++ Go.Lib.itoa o.d) := by rw [opL, opW, numsO, eo]; exact j3 _ _ _
    have s0 := L (x := spc) (y := Go.Lib.itoa o.b) (by simp only [List.length_append, spc_len]; omega)
    have s1 := L (x := spc ++ Go.Lib.itoa o.b) (y := spc) (by simp only [List.length_append, spc_len]; omega)
    have s2 := L (x := spc ++ Go.Lib.itoa o.b ++ spc) (y := Go.Lib.itoa o.c) (by simp only [List.length_append, spc_len]; omega)
    have s3 := L (x := spc ++ Go.Lib.itoa o.b ++ spc ++ Go.Lib.itoa o.c) (y := spc) (by simp only [List.length_append, spc_len]; omega)
    have s4 := L (x := spc ++ Go.Lib.itoa o.b ++ spc ++ Go.Lib.itoa o.c ++ spc) (y := Go.Lib.itoa o.d) (by simp only [List.length_append, spc_len]; omega)
    have s5 := L (x := wordK o.a) (y := spc ++ Go.Lib.itoa o.b ++ spc ++ Go.Lib.itoa o.c ++ spc ++ Go.Lib.itoa o.d) (by simp only [List.length_append, spc_len]; omega)
    (repeat' (first | (simp only [wp, extractV, exists_eq_left', if_true, if_false, ite_true, ite_false, reduceIte, Nat.reduceAdd, Nat.reduceLT, Nat.reduceLeDiff, Nat.reduceEqDiff, r0, r1, r2, r3, r4, refWordK_spec n, refMany_spec n, em, Int.reduceNeg, Int.reduceBEq, beq_self_eq_true, hb, hc, hd, sp_bs, s0, s1, s2, s3, s4, s5]) | (with_reducible refine Run.gC ?_ ?_ <;> intro hb <;> try simp only [hb]) | (with_reducible refine Run.gG ?_ ?_ <;> intro hb <;> try simp only [hb]) | (with_reducible refine Run.gQ ?_ ?_ <;> intro hb <;> try simp only [hb])))
    rw [eL]
end Go.Fv.Tr
