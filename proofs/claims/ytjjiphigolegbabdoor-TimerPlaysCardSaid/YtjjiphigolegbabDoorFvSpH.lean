/-
  Sorting timers. By an AI agent; no person has read it.
-/
import Derived.Test.YtjjiphigolegbabDoorFvSpD
import Derived.Test.YtjjiphigolegbabDoorFvTr4
import Derived.Test.YtjjiphigolegbabDoorFvW5
set_option linter.unusedVariables false
set_option linter.unusedSimpArgs false
set_option linter.unusedSectionVars false
/-! Sorting timers. -/
namespace Go.Fv.Tr
open Go Go.Fv Go.Fv.Pl Go.Proofs
set_option linter.unusedSimpArgs false
set_option linter.unusedVariables false
variable {G : Nat → Option (List V)}

theorem cmp_call (n : Nat) (a b : Tm) : callFn (cfg G) (sem (cfg G) (n + 3)) (.fn 70 []) [.agg (tmRow a), .agg (tmRow b)] = M.ret (.int .i64 (cmpT a b)) := compare_spec n a b

/-- The block shows these timers first. -/
def Data (H : Heap) (l : Nat) (b : Blk) (data : List Tm) : Prop := ∃ R, H.blk l = some ⟨b.sz, R⟩ ∧ R.length = b.rows.length ∧ R.take data.length = data.map tmRow
theorem Data.row {H : Heap} {l : Nat} {b : Blk} {data : List Tm} {R : List (List V)} (h : R.take data.length = data.map tmRow) {j : Nat} {t : Tm} (hj : data[j]? = some t) : R[j]? = some (tmRow t) := by
  have hlt := (List.getElem?_eq_some_iff.1 hj).1
  rw [← List.getElem?_take_of_lt hlt, h, List.getElem?_map, hj]
  rfl
theorem Data.frame {H H' : Heap} {l : Nat} {b : Blk} {data : List Tm} {p : Nat → Prop} (h : Data H l b data) (f : Frame H H' p) (hl : l < H.next) (hp : ¬ p l) : Data H' l b data := by
  obtain ⟨R, h1, h2⟩ := h
  exact ⟨R, (f.old l hl hp).trans h1, h2⟩
theorem swap_list (r : List Tm) (s v : Tm) (B : List Tm) : (((s :: r).reverse ++ v :: B).set (r.length + 1) s).set r.length v = r.reverse ++ v :: s :: B := by
  have e : (s :: r).reverse ++ v :: B = r.reverse ++ s :: v :: B := by simp
  rw [e, List.set_append_right _ _ (by simp), List.length_reverse, Nat.add_sub_cancel_left]
  rw [List.set_append_right _ _ (by simp), List.length_reverse, Nat.sub_self]
  rfl
theorem tm_drop (t : Tm) : (tmRow t).drop 2 = [] := rfl
theorem set_take_map {R : List (List V)} {data : List Tm} (h : R.take data.length = data.map tmRow) (j : Nat) (s : Tm) : (R.set j (tmRow s)).take (data.set j s).length = (data.set j s).map tmRow := by
  rw [List.length_set, List.take_set, h, List.map_set]

theorem insertion_spec (n : Nat) {H : Heap} {l c : Nat} {ex : Bool} {b : Blk} {ts : List Tm} (hb : H.blk l = some b) (hf : H.floor ≤ l) (hl : l < H.next) (hc : ts.length ≤ c) (hcb : c ≤ b.rows.length) (hrows : b.rows.take ts.length = ts.map tmRow) (h12 : ts.length ≤ 12) :
    Run (callV (cfg G) (sem (cfg G) (n + 4)) 112 [.ref l 2 0 ts.length c ex, .int .i64 0, .int .i64 (ts.length : Nat), .fn 70 []]) H fun _ H' => Data H' l b (isort ts) ∧ Frame H H' (fun k => k = l) := by
  rw [callV_inl rfl, slices_insertionSortCmpFunc_ferry_api_Timer_eq]
  simp only [slices_insertionSortCmpFunc_ferry_api_Timer]
  have hone : arithV .add (.int .i64 0) (.int .i64 1) = some (.int .i64 ((1 : Nat) : Int)) := addN (i := 0) (N := 1) (by omega) (by decide)
  have hx : ∀ j : Nat, j < ts.length → idxV 2 (.ref l 2 0 ts.length c ex) (.int .i64 (j : Int)) = some (.ptr l j 0) := fun j hj => by simp [idxV, hj]
  (repeat' (first | (simp only [wp, extractV, exists_eq_left', if_true, if_false, ite_true, ite_false, reduceIte, Nat.reduceAdd, Nat.reduceLT, Nat.reduceLeDiff, Nat.reduceEqDiff, hone]) | (with_reducible refine Run.gC ?_ ?_ <;> intro hb <;> try simp only [hb]) | (with_reducible refine Run.gG ?_ ?_ <;> intro hb <;> try simp only [hb]) | (with_reducible refine Run.gQ ?_ ?_ <;> intro hb <;> try simp only [hb])))
  refine Run.loop (N := 12) (fun r s H' => ∃ i : Nat, i = r + 1 ∧ s = [.int .i64 (i : Nat)] ∧ H'.floor = H.floor ∧ Frame H H' (fun k => k = l) ∧ Data H' l b (isort (ts.take i) ++ ts.drop i))
    ⟨1, rfl, rfl, rfl, Frame.refl _ _, ?_⟩ ?_
  · have e : isort (ts.take 1) = ts.take 1 := by
      cases ts with
      | nil => rfl
      | cons a ts => rfl
    rw [e, List.take_append_drop]
    exact ⟨b.rows, hb, rfl, hrows⟩
  rintro r s H1 hr ⟨i, rfl, rfl, hf1, fr1, hd⟩
  by_cases hlt : r + 1 < ts.length
  · have hlo : ltT hlt = ltT hlt := rfl
    simp only [slices_insertionSortCmpFunc_ferry_api_Timer_l1]
    (repeat' (first | (simp only [wp, extractV, exists_eq_left', if_true, if_false, ite_true, ite_false, reduceIte, Nat.reduceAdd, Nat.reduceLT, Nat.reduceLeDiff, Nat.reduceEqDiff, ltT hlt]) | (with_reducible refine Run.gC ?_ ?_ <;> intro hb <;> try simp only [hb]) | (with_reducible refine Run.gG ?_ ?_ <;> intro hb <;> try simp only [hb]) | (with_reducible refine Run.gQ ?_ ?_ <;> intro hb <;> try simp only [hb])))
    have hi2 : (isort (ts.take (r + 1))).length = r + 1 := by rw [isort_len, List.length_take]; omega
    -- the inner loop
    refine Run.loop (N := r + 1) (fun k s H2 => ∃ q B, q.length + k = r + 1 ∧ s = [.int .i64 (q.length : Nat)] ∧ H2.floor = H.floor ∧ Frame H H2 (fun k => k = l) ∧ Data H2 l b (q.reverse ++ ts[r + 1] :: (B ++ ts.drop (r + 2))) ∧ insRev ts[r + 1] q B = ins (isort (ts.take (r + 1))) ts[r + 1])
      ⟨(isort (ts.take (r + 1))).reverse, [], by rw [List.length_reverse, hi2], by rw [List.length_reverse, hi2], hf1, fr1, ?_, rfl⟩ ?_
    · rw [List.reverse_reverse, List.nil_append, ← List.drop_eq_getElem_cons hlt]
      exact hd
    rintro k s H2 hk ⟨q, B, hq, rfl, hf2, fr2, hd2, hins⟩
    have e1 : isort (ts.take (r + 1 + 1)) = ins (isort (ts.take (r + 1))) ts[r + 1] := by rw [take_snoc hlt, isort_snoc]
    have hl2 : l < H2.next := Nat.lt_of_lt_of_le hl fr2.next
    cases q with
    | nil =>
      simp only [slices_insertionSortCmpFunc_ferry_api_Timer_l2]
      (repeat' (first | (simp only [wp, extractV, exists_eq_left', if_true, if_false, ite_true, ite_false, reduceIte, Nat.reduceAdd, Nat.reduceLT, Nat.reduceLeDiff, Nat.reduceEqDiff, Int.natCast_zero, Int.lt_irrefl, decide_false, addN (show r + 1 < 12 by omega) (show 12 ≤ big by decide)]) | (with_reducible refine Run.gC ?_ ?_ <;> intro hb <;> try simp only [hb]) | (with_reducible refine Run.gG ?_ ?_ <;> intro hb <;> try simp only [hb]) | (with_reducible refine Run.gQ ?_ ?_ <;> intro hb <;> try simp only [hb])))
      refine ⟨by omega, _, rfl, rfl, hf2, fr2.trans (Frame.q _ (fun _ => False)) (fun _ _ h => h) (fun _ _ h => h.elim), ?_⟩
      rw [e1, ← hins]
      exact hd2.frame (Frame.q _ (fun _ => False)) hl2 id
    | cons s q =>
      obtain ⟨R, hR, hRl, hRt⟩ := hd2
      rw [List.length_cons] at hq
      have h6 : ((s :: q).reverse ++ ts[r + 1] :: (B ++ ts.drop (r + 2)))[q.length + 1]? = some ts[r + 1] := by simp
      have h7 : ((s :: q).reverse ++ ts[r + 1] :: (B ++ ts.drop (r + 2)))[q.length]? = some s := by simp
      have h8 := Data.row (H := H2) (l := l) (b := b) hRt h6
      have h9 := Data.row (H := H2) (l := l) (b := b) hRt h7
      have h10 : (R.set (q.length + 1) (tmRow s))[q.length]? = some (tmRow s) := by rw [List.getElem?_set_ne (by omega)]; exact h9
      have hgt : decide ((0 : Int) < ((q.length + 1 : Nat) : Int)) = true := decide_eq_true (by omega)
      have hsub : arithV .sub (.int .i64 ((q.length + 1 : Nat) : Int)) (.int .i64 1) = some (.int .i64 ((q.length : Nat) : Int)) := by
        rw [arith_sub (by omega) (by omega), show ((q.length + 1 : Nat) : Int) - 1 = ((q.length : Nat) : Int) by omega]
      have hx1 := hx (q.length + 1) (by omega)
      have hx0 := hx q.length (by omega)
      have hfl : H2.floor ≤ l := by rw [hf2]; exact hf
      simp only [slices_insertionSortCmpFunc_ferry_api_Timer_l2]
      (repeat' (first | (simp only [wp, extractV, exists_eq_left', if_true, if_false, ite_true, ite_false, reduceIte, Nat.reduceAdd, Nat.reduceLT, Nat.reduceLeDiff, Nat.reduceEqDiff, hgt, hx1, hx0, hR, h8, h9, h10, hsub, cmp_call, tm_len, tm_take, tm_drop, hl2, hfl, addN (show r + 1 < 12 by omega) (show 12 ≤ big by decide)]) | (with_reducible refine Run.gC ?_ ?_ <;> intro hb <;> try simp only [hb]) | (with_reducible refine Run.gG ?_ ?_ <;> intro hb <;> try simp only [hb]) | (with_reducible refine Run.gQ ?_ ?_ <;> intro hb <;> try simp only [hb])))
      · have hv : before ts[r + 1] s := cmpT_neg.1 (of_decide_eq_true hb)
        rw [insRev, if_pos hv] at hins
        refine ⟨by omega, q, s :: B, by omega, rfl, hf2, ?_, ⟨(R.set (q.length + 1) (tmRow s)).set q.length (tmRow ts[r + 1]), by rw [Heap.set_blk, if_pos rfl], by rw [List.length_set, List.length_set, hRl], ?_⟩, hins⟩
        · exact ((fr2.trans (Frame.q _ (fun _ => False)) (fun _ _ h => h) (fun _ _ h => h.elim)).trans (Frame.set _ _ (p := fun k => k = l) rfl) (fun _ _ h => h) (fun _ _ h => h)).trans (Frame.set _ _ (p := fun k => k = l) rfl) (fun _ _ h => h) (fun _ _ h => h)
        · have := set_take_map (set_take_map hRt (q.length + 1) s) q.length ts[r + 1]
          rw [swap_list] at this
          exact this
      · have hv : ¬ before ts[r + 1] s := fun h => of_decide_eq_false hb (cmpT_neg.2 h)
        rw [insRev, if_neg hv] at hins
        refine ⟨by omega, _, rfl, rfl, hf2, fr2.trans (Frame.q _ (fun _ => False)) (fun _ _ h => h) (fun _ _ h => h.elim), ?_⟩
        rw [e1, ← hins, List.append_assoc, List.cons_append]
        exact (Data.frame ⟨R, hR, hRl, hRt⟩ (Frame.q _ (fun _ => False)) hl2 id)
  · simp only [slices_insertionSortCmpFunc_ferry_api_Timer_l1]
    (repeat' (first | (simp only [wp, extractV, exists_eq_left', if_true, if_false, ite_true, ite_false, reduceIte, Nat.reduceAdd, Nat.reduceLT, Nat.reduceLeDiff, Nat.reduceEqDiff, ltF hlt]) | (with_reducible refine Run.gC ?_ ?_ <;> intro hb <;> try simp only [hb]) | (with_reducible refine Run.gG ?_ ?_ <;> intro hb <;> try simp only [hb]) | (with_reducible refine Run.gQ ?_ ?_ <;> intro hb <;> try simp only [hb])))
    rw [take_all (by omega), List.drop_of_length_le (by omega), List.append_nil] at hd
    exact ⟨hd, fr1⟩

def lenOf (k : Nat) : Int := ([0, 1, 2, 2, 3, 3, 3, 3, 4, 4, 4, 4, 4] : List Int).getD k 0
set_option maxRecDepth 100000 in
theorem len64_spec (n : Nat) {k : Nat} (hk : k ≤ 12) : callV (cfg G) (sem (cfg G) (n + 1)) 121 [.int .u64 (k : Nat)] = M.ret (.int .i64 (lenOf k)) := by
  have hc : k = 0 ∨ k = 1 ∨ k = 2 ∨ k = 3 ∨ k = 4 ∨ k = 5 ∨ k = 6 ∨ k = 7 ∨ k = 8 ∨ k = 9 ∨ k = 10 ∨ k = 11 ∨ k = 12 := by omega
  refine callV_pure0 rfl rfl rfl ?_
  rw [math_bits_Len64_eq]
  rcases hc with rfl | rfl | rfl | rfl | rfl | rfl | rfl | rfl | rfl | rfl | rfl | rfl | rfl
  all_goals exact ⟨_, _, rfl, rfl⟩
theorem len_spec (n : Nat) {k : Nat} (hk : k ≤ 12) : callV (cfg G) (sem (cfg G) (n + 2)) 95 [.int .u64 (k : Nat)] = M.ret (.int .i64 (lenOf k)) := by
  refine callV_pure0 rfl rfl rfl ?_
  rw [math_bits_Len_eq]
  simp only [math_bits_Len]
  (repeat' (first | (simp only [wp, extractV, exists_eq_left', if_true, if_false, ite_true, ite_false, reduceIte, Nat.reduceAdd, Nat.reduceLT, Nat.reduceLeDiff, Nat.reduceEqDiff, len64_spec n hk]) | (with_reducible refine Run.gC ?_ ?_ <;> intro hb <;> try simp only [hb]) | (with_reducible refine Run.gG ?_ ?_ <;> intro hb <;> try simp only [hb]) | (with_reducible refine Run.gQ ?_ ?_ <;> intro hb <;> try simp only [hb])))

theorem sortFunc_spec (n : Nat) {H : Heap} {x : V} {ts : List Tm} (hx : Own H x 2 (ts.map tmRow)) (h12 : ts.length ≤ 12) :
    Run (callV (cfg G) (sem (cfg G) (n + 6)) 69 [x, .fn 70 []]) H fun _ H' => Own H' x 2 ((isort ts).map tmRow) ∧ Frame H H' (fun k => loc x = some k) := by
  have hconv : convI .u64 (.int .i64 (ts.length : Nat)) = some (.int .u64 (ts.length : Nat)) := by
    have : IntKind.u64.wrap (ts.length : Nat) = (ts.length : Nat) := IntWalk.u64_in _ (by omega)
    simp [convI, this]
  rw [callV_inl rfl, slices_SortFunc_ferry_api_Timer_ferry_api_Timer_eq]
  simp only [slices_SortFunc_ferry_api_Timer_ferry_api_Timer]
  (repeat' (first | (simp only [wp, extractV, exists_eq_left', if_true, if_false, ite_true, ite_false, reduceIte, Nat.reduceAdd, Nat.reduceLT, Nat.reduceLeDiff, Nat.reduceEqDiff, hx.len, List.length_map, hconv, len_spec _ h12]) | (with_reducible refine Run.gC ?_ ?_ <;> intro hb <;> try simp only [hb]) | (with_reducible refine Run.gG ?_ ?_ <;> intro hb <;> try simp only [hb]) | (with_reducible refine Run.gQ ?_ ?_ <;> intro hb <;> try simp only [hb])))
  rw [callV_inl rfl, slices_pdqsortCmpFunc_ferry_api_Timer_eq]
  simp only [slices_pdqsortCmpFunc_ferry_api_Timer]
  (repeat' (first | (simp only [wp, extractV, exists_eq_left', if_true, if_false, ite_true, ite_false, reduceIte, Nat.reduceAdd, Nat.reduceLT, Nat.reduceLeDiff, Nat.reduceEqDiff]) | (with_reducible refine Run.gC ?_ ?_ <;> intro hb <;> try simp only [hb]) | (with_reducible refine Run.gG ?_ ?_ <;> intro hb <;> try simp only [hb]) | (with_reducible refine Run.gQ ?_ ?_ <;> intro hb <;> try simp only [hb])))
  have hsub : arithV .sub (.int .i64 (ts.length : Nat)) (.int .i64 0) = some (.int .i64 (ts.length : Nat)) := by
    rw [arith_sub (by omega) (by omega), Int.sub_zero]
  have hle : decide (((ts.length : Nat) : Int) ≤ 12) = true := decide_eq_true (by omega)
  refine Run.loop (N := 1) (fun r s H' => r = 0 ∧ s = [.int .i64 (lenOf ts.length), .bool true, .int .i64 0, .bool true, .int .i64 (ts.length : Nat)] ∧ H' = H) ⟨rfl, rfl, rfl⟩ ?_
  rintro r s H' hr ⟨rfl, rfl, rfl⟩
  simp only [slices_pdqsortCmpFunc_ferry_api_Timer_l1]
  (repeat' (first | (simp only [wp, extractV, exists_eq_left', if_true, if_false, ite_true, ite_false, reduceIte, Nat.reduceAdd, Nat.reduceLT, Nat.reduceLeDiff, Nat.reduceEqDiff, hsub, hle]) | (with_reducible refine Run.gC ?_ ?_ <;> intro hb <;> try simp only [hb]) | (with_reducible refine Run.gG ?_ ?_ <;> intro hb <;> try simp only [hb]) | (with_reducible refine Run.gQ ?_ ?_ <;> intro hb <;> try simp only [hb])))
  rcases hx with ⟨hx, hnil⟩ | ⟨l, nx, c, ex, b, rfl, hb, hf, hl, hc, hcb, hrows⟩
  · have hts : ts = [] := List.map_eq_nil_iff.1 hnil
    subst hts
    rw [callV_inl rfl, slices_insertionSortCmpFunc_ferry_api_Timer_eq]
    simp only [slices_insertionSortCmpFunc_ferry_api_Timer]
    have hone : arithV .add (.int .i64 0) (.int .i64 1) = some (.int .i64 ((1 : Nat) : Int)) := addN (i := 0) (N := 1) (by omega) (by decide)
    (repeat' (first | (simp only [wp, extractV, exists_eq_left', if_true, if_false, ite_true, ite_false, reduceIte, Nat.reduceAdd, Nat.reduceLT, Nat.reduceLeDiff, Nat.reduceEqDiff, hone]) | (with_reducible refine Run.gC ?_ ?_ <;> intro hb <;> try simp only [hb]) | (with_reducible refine Run.gG ?_ ?_ <;> intro hb <;> try simp only [hb]) | (with_reducible refine Run.gQ ?_ ?_ <;> intro hb <;> try simp only [hb])))
    refine Run.loop (N := 1) (fun r s H2 => s = [.int .i64 ((1 : Nat) : Int)] ∧ H2 = H') ⟨rfl, rfl⟩ ?_
    rintro r s H2 hr ⟨rfl, rfl⟩
    have hlt : decide (((1 : Nat) : Int) < ((0 : Nat) : Int)) = false := rfl
    simp only [slices_insertionSortCmpFunc_ferry_api_Timer_l1]
    (repeat' (first | (simp only [wp, extractV, exists_eq_left', if_true, if_false, ite_true, ite_false, reduceIte, Nat.reduceAdd, Nat.reduceLT, Nat.reduceLeDiff, Nat.reduceEqDiff, hlt]) | (with_reducible refine Run.gC ?_ ?_ <;> intro hb <;> try simp only [hb]) | (with_reducible refine Run.gG ?_ ?_ <;> intro hb <;> try simp only [hb]) | (with_reducible refine Run.gQ ?_ ?_ <;> intro hb <;> try simp only [hb])))
    exact ⟨.inl ⟨hx, rfl⟩, Frame.refl _ _⟩
  · have hnx : nx = ts.length := by
      have := congrArg List.length hrows
      rw [List.length_take, List.length_map] at this
      omega
    subst hnx
    refine (insertion_spec _ hb hf hl hc hcb hrows h12).mono fun _ H2 ⟨⟨R, hR, hRl, hRt⟩, fr⟩ => ?_
    (repeat' (first | (simp only [wp, extractV, exists_eq_left', if_true, if_false, ite_true, ite_false, reduceIte, Nat.reduceAdd, Nat.reduceLT, Nat.reduceLeDiff, Nat.reduceEqDiff]) | (with_reducible refine Run.gC ?_ ?_ <;> intro hb <;> try simp only [hb]) | (with_reducible refine Run.gG ?_ ?_ <;> intro hb <;> try simp only [hb]) | (with_reducible refine Run.gQ ?_ ?_ <;> intro hb <;> try simp only [hb])))
    have hle2 : ts.length ≤ R.length := by omega
    refine ⟨.inr ⟨l, ts.length, c, ex, _, rfl, hR, by rw [fr.floor]; exact hf, Nat.lt_of_lt_of_le hl fr.next, hc, by rw [hRl]; exact hcb, ?_⟩, fr.mono fun k _ e => by rw [e]; rfl⟩
    rw [isort_len] at hRt
    exact hRt
end Go.Fv.Tr
