/-
  The document's timers, by process: no timers; the list in form. By an AI agent; no person has read it.
-/
import Derived.Test.YtjjiphigolegbabDoorFvSrA
import Derived.Test.YtjjiphigolegbabDoorFvTr15
set_option linter.unusedVariables false
set_option linter.unusedSimpArgs false
set_option linter.unusedSectionVars false
/-! The document's timers, by process: no timers; the list in form. -/
namespace Go.Fv.Tr
open Go Go.Fv Go.Fv.Pl Go.Proofs
set_option linter.unusedSimpArgs false
set_option linter.unusedVariables false
variable {G : Nat → Option (List V)}

def dv (d : List Int) : List V := d.map fun n => V.int .i64 n
theorem dv_len (d : List Int) : (dv d).length = d.length := List.length_map _
theorem dv_get {d : List Int} {i : Nat} (h : i < d.length) : (dv d)[i]? = some (.int .i64 (d.getD i (-1))) := by
  rw [dv, List.getElem?_map, List.getD_eq_getElem?_getD, List.getElem?_eq_getElem h]; rfl
theorem set_take {α : Type} {l : List α} {i : Nat} (h : i < l.length) (v : α) : l.take i ++ [v] ++ l.drop (i + 1) = l.set i v := by
  rw [List.set_eq_take_append_cons_drop, if_pos h, List.append_assoc]; rfl
theorem dv_set {d : List Int} {i : Nat} (h : i < d.length) (v : Int) : (dv d).take i ++ [.int .i64 v] ++ (dv d).drop (i + 1) = dv (d.set i v) := by
  rw [set_take (by rw [dv_len]; exact h), dv, dv, List.map_set]
theorem dv_closed (d : List Int) : (V.agg (dv d)).closedV = true := by
  simp [V.closedV, dv, V.closed, V.flat]
theorem dv_take {d : List Int} (h : d.length = 8) : (dv d).take 8 = dv d := List.take_of_length_le (by rw [dv_len]; omega)
theorem dv_drop {d : List Int} (h : d.length = 8) : (dv d).drop 8 = [] := List.drop_of_length_le (by rw [dv_len]; omega)
theorem dv_zero : ([.int .i64 0, .int .i64 0, .int .i64 0, .int .i64 0, .int .i64 0, .int .i64 0, .int .i64 0, .int .i64 0] : List V) = dv (List.replicate 8 0) := rfl
theorem len_zero : (List.replicate 8 (0 : Int)).length = 8 := rfl
theorem no8_len : no8.length = 8 := rfl
theorem thaw2_dv (ok : Bool) (H : Heap) (d : List Int) : thaw2 ok H (.agg (dv d)) = some (.agg (dv d)) := by
  have : (dv d).mapM (thaw ok H) = some (dv d) := by
    unfold dv
    induction d with
    | nil => rfl
    | cons a d ih => rw [List.map_cons, List.mapM_cons, ih]; simp [thaw, V.flat]
  simp [thaw2, this]
theorem aidx8 {l i : Nat} {p : Int} (h0 : 0 ≤ p) (h : p < 8) : aidxV 8 1 (.ptr l i 0) (.int .i64 p) = some (.ptr l i p.toNat) := by
  have := aidx_in (l := l) (i := i) (o := 0) h0 (n := 8) (by omega)
  rwa [Nat.mul_one, Nat.zero_add] at this

theorem lt8T {i : Nat} (h : i < 8) : decide ((i : Int) < 8) = true := decide_eq_true (by omega)
theorem lt8F {i : Nat} (h : ¬ i < 8) : decide ((i : Int) < 8) = false := decide_eq_false (by omega)
theorem none08_spec (n : Nat) : callV (cfg G) (sem (cfg G) (n + 1)) 91 [] = M.ret (.agg (dv no8)) := by
  refine callV_pure0 rfl rfl (dv_closed _) ?_
  rw [ferry_ferryref08_None_eq]
  simp only [ferry_ferryref08_None, dv_zero]
  (repeat' (first | (simp only [wp, extractV, exists_eq_left', if_true, if_false, ite_true, ite_false, reduceIte, Nat.reduceAdd, Nat.reduceLT, Nat.reduceLeDiff, Nat.reduceEqDiff, dv_len, len_zero]) | (with_reducible refine Run.gC ?_ ?_ <;> intro hb <;> try simp only [hb]) | (with_reducible refine Run.gG ?_ ?_ <;> intro hb <;> try simp only [hb]) | (with_reducible refine Run.gQ ?_ ?_ <;> intro hb <;> try simp only [hb])))
  refine Run.loop (N := 8) (fun i s H => s = [.int .i64 (i : Nat)] ∧ H.floor = 0 ∧ H.blk 0 = some ⟨8, [dv (List.replicate 8 0)]⟩ ∧ ∃ d, d.length = 8 ∧ (∀ j, j < i → d[j]? = some (-1)) ∧ H.blk 1 = some ⟨8, [dv d]⟩)
    ⟨rfl, rfl, by simp [Heap.add_blk, Heap.add_next, Heap.empty_next], List.replicate 8 0, rfl, by simp, by simp [Heap.add_blk, Heap.add_next, Heap.empty_next]⟩ ?_
  rintro i s H hi ⟨rfl, hf, hb0, d, h8, hd, hb1⟩
  by_cases hlt : i < 8
  · simp only [ferry_ferryref08_None_l1]
    (repeat' (first | (simp only [wp, extractV, exists_eq_left', if_true, if_false, ite_true, ite_false, reduceIte, Nat.reduceAdd, Nat.reduceLT, Nat.reduceLeDiff, Nat.reduceEqDiff, lt8T hlt, aidx8 (p := i) (by omega) (by omega), Int.toNat_natCast, hf, hb1, dv_len, h8, dv_set (show i < d.length by omega), addN hlt (show 8 ≤ big by decide)]) | (with_reducible refine Run.gC ?_ ?_ <;> intro hb <;> try simp only [hb]) | (with_reducible refine Run.gG ?_ ?_ <;> intro hb <;> try simp only [hb]) | (with_reducible refine Run.gQ ?_ ?_ <;> intro hb <;> try simp only [hb])))
    refine ⟨by omega, by omega, hb0, d.set i (-1), by rw [List.length_set, h8], fun j hj => ?_, rfl⟩
    rw [List.getElem?_set]
    by_cases e : i = j
    · rw [if_pos e, if_pos (by omega)]
    · rw [if_neg e]; exact hd j (by omega)
  · simp only [ferry_ferryref08_None_l1]
    have e : d = no8 := by
      refine List.ext_getElem? fun j => ?_
      by_cases hj : j < 8
      · rw [hd j (by omega)]; unfold no8; rw [List.getElem?_replicate, if_pos hj]
      · rw [List.getElem?_eq_none (by omega), List.getElem?_eq_none (by rw [no8_len]; omega)]
    subst e
    (repeat' (first | (simp only [wp, extractV, exists_eq_left', if_true, if_false, ite_true, ite_false, reduceIte, Nat.reduceAdd, Nat.reduceLT, Nat.reduceLeDiff, Nat.reduceEqDiff, lt8F hlt, hb0, hb1, hf, dv_len, no8_len, dv_take no8_len, len_zero, dv_drop len_zero]) | (with_reducible refine Run.gC ?_ ?_ <;> intro hb <;> try simp only [hb]) | (with_reducible refine Run.gG ?_ ?_ <;> intro hb <;> try simp only [hb]) | (with_reducible refine Run.gQ ?_ ?_ <;> intro hb <;> try simp only [hb])))
    rfl

set_option maxRecDepth 20000 in
theorem list08_spec (n : Nat) {d : List Int} (h8 : d.length = 8) : Says (cfg G) (sem (cfg G) (n + 1)) 64 [.agg (dv d)] fun r => Sls r 2 ((lst d).map tmRow) := by
  intro ok
  rw [ferry_ferryref08_List_eq]
  simp only [ferry_ferryref08_List]
  (repeat' (first | (simp only [wp, extractV, exists_eq_left', if_true, if_false, ite_true, ite_false, reduceIte, Nat.reduceAdd, Nat.reduceLT, Nat.reduceLeDiff, Nat.reduceEqDiff, dv_len, h8]) | (with_reducible refine Run.gC ?_ ?_ <;> intro hb <;> try simp only [hb]) | (with_reducible refine Run.gG ?_ ?_ <;> intro hb <;> try simp only [hb]) | (with_reducible refine Run.gQ ?_ ?_ <;> intro hb <;> try simp only [hb])))
  have hl8 : (lst d).length ≤ 8 := by have := lst_len d; omega
  refine Run.loop (N := (lst d).length) (fun k s H => ∃ l d' L, s = [.nils, l] ∧ H.floor = 0 ∧ 0 < H.next ∧ H.blk 0 = some ⟨8, [dv d']⟩ ∧ d'.length = 8 ∧ loc l ≠ some 0 ∧ Own H l 2 (L.map tmRow) ∧ L ++ lst d' = lst d ∧ L.length = k)
    ⟨.nils, d, [], rfl, rfl, by simp [Heap.add_next], by simp [Heap.add_blk, Heap.empty_next], h8, (by intro h; cases h), Own.nils _ _, rfl, rfl⟩ ?_
  rintro k s H hk ⟨l, d', L, rfl, hf, hn, hb0, h8', hl0, ho, hL, hk'⟩
  simp only [ferry_ferryref08_List_l1]
  (repeat' (first | (simp only [wp, extractV, exists_eq_left', if_true, if_false, ite_true, ite_false, reduceIte, Nat.reduceAdd, Nat.reduceLT, Nat.reduceLeDiff, Nat.reduceEqDiff]) | (with_reducible refine Run.gC ?_ ?_ <;> intro hb <;> try simp only [hb]) | (with_reducible refine Run.gG ?_ ?_ <;> intro hb <;> try simp only [hb]) | (with_reducible refine Run.gQ ?_ ?_ <;> intro hb <;> try simp only [hb])))
  refine Run.loop (N := 8) (fun i s H' => s = [.int .i64 (sel d' i), .int .i64 (i : Nat)] ∧ H' = H) ⟨rfl, rfl⟩ ?_
  rintro i s H' hi ⟨rfl, rfl⟩
  have hs := sel_inv d' i
  by_cases hlt : i < 8
  · simp only [ferry_ferryref08_List_l2, ferry_ferryref08_List_j1]
    by_cases h0 : sel d' i < 0
    · (repeat' (first | (simp only [wp, extractV, exists_eq_left', if_true, if_false, ite_true, ite_false, reduceIte, Nat.reduceAdd, Nat.reduceLT, Nat.reduceLeDiff, Nat.reduceEqDiff, lt8T hlt, aidx8 (p := i) (by omega) (by omega), Int.toNat_natCast, hf, hb0, dv_get (show i < d'.length by omega), addN hlt (show 8 ≤ big by decide), decide_eq_true h0]) | (with_reducible refine Run.gC ?_ ?_ <;> intro hb <;> try simp only [hb]) | (with_reducible refine Run.gG ?_ ?_ <;> intro hb <;> try simp only [hb]) | (with_reducible refine Run.gQ ?_ ?_ <;> intro hb <;> try simp only [hb])))
      · have e : sel d' (i + 1) = i := by rw [sel, if_pos ⟨of_decide_eq_true hb, .inl h0⟩]
        exact ⟨hlt, by rw [e]⟩
      · have hb := of_decide_eq_false hb
        have e : sel d' (i + 1) = sel d' i := by rw [sel, if_neg fun g => hb g.1]
        exact ⟨hlt, by rw [e]⟩
    · have e0 : aidxV 8 1 (.ptr 0 0 0) (.int .i64 (sel d' i)) = some (.ptr 0 0 (sel d' i).toNat) := aidx8 (by omega) (by omega)
      (repeat' (first | (simp only [wp, extractV, exists_eq_left', if_true, if_false, ite_true, ite_false, reduceIte, Nat.reduceAdd, Nat.reduceLT, Nat.reduceLeDiff, Nat.reduceEqDiff, lt8T hlt, aidx8 (p := i) (by omega) (by omega), Int.toNat_natCast, hf, hb0, dv_get (show i < d'.length by omega), e0, dv_get (show (sel d' i).toNat < d'.length by omega), addN hlt (show 8 ≤ big by decide), decide_eq_false h0]) | (with_reducible refine Run.gC ?_ ?_ <;> intro hb <;> try simp only [hb]) | (with_reducible refine Run.gG ?_ ?_ <;> intro hb <;> try simp only [hb]) | (with_reducible refine Run.gQ ?_ ?_ <;> intro hb <;> try simp only [hb])))
      · rename_i hb2
        have hb := of_decide_eq_true hb
        have hb2 := of_decide_eq_true hb2
        have e : sel d' (i + 1) = i := by rw [sel, if_pos ⟨hb2, .inr hb⟩]
        exact ⟨hlt, by rw [e]⟩
      · rename_i hb2
        have hb2 := of_decide_eq_false hb
        have e : sel d' (i + 1) = sel d' i := by rw [sel, if_neg fun g => g.2.elim h0 hb2]
        exact ⟨hlt, by rw [e]⟩
      · have hb := of_decide_eq_false hb
        have e : sel d' (i + 1) = sel d' i := by rw [sel, if_neg fun g => hb g.1]
        exact ⟨hlt, by rw [e]⟩
  · simp only [ferry_ferryref08_List_l2]
    have hi8 : i = 8 := by omega
    subst hi8
    rcases hs with ⟨hs, _⟩ | ⟨h0, h1, h2, _⟩
    · have hnil := lst_nil (by rw [h8']; exact hs)
      rw [hnil, List.append_nil] at hL
      subst hL
      (repeat' (first | (simp only [wp, extractV, exists_eq_left', if_true, if_false, ite_true, ite_false, reduceIte, Nat.reduceAdd, Nat.reduceLT, Nat.reduceLeDiff, Nat.reduceEqDiff, lt8F hlt, hs, show decide ((-1 : Int) < 0) = true from rfl]) | (with_reducible refine Run.gC ?_ ?_ <;> intro hb <;> try simp only [hb]) | (with_reducible refine Run.gG ?_ ?_ <;> intro hb <;> try simp only [hb]) | (with_reducible refine Run.gQ ?_ ?_ <;> intro hb <;> try simp only [hb])))
      obtain ⟨w, hw, _, hsl⟩ := ho.thawV (flat_tm _) ok
      exact ⟨w, hw, hsl⟩
    · have hcons := lst_cons (d := d') (k := (sel d' 8).toNat) (by omega) (by rw [h8']; omega) h2
      have e0 : aidxV 8 1 (.ptr 0 0 0) (.int .i64 (sel d' 8)) = some (.ptr 0 0 (sel d' 8).toNat) := aidx8 (by omega) (by omega)
      (repeat' (first | (simp only [wp, extractV, exists_eq_left', if_true, if_false, ite_true, ite_false, reduceIte, Nat.reduceAdd, Nat.reduceLT, Nat.reduceLeDiff, Nat.reduceEqDiff, lt8F hlt, decide_eq_false (show ¬ sel d' 8 < 0 by omega), e0, hf, hb0, dv_get (show (sel d' 8).toNat < d'.length by omega), buildV, fill, putRow]) | (with_reducible refine Run.gC ?_ ?_ <;> intro hb <;> try simp only [hb]) | (with_reducible refine Run.gG ?_ ?_ <;> intro hb <;> try simp only [hb]) | (with_reducible refine Run.gQ ?_ ?_ <;> intro hb <;> try simp only [hb])))
      rw [Int.toNat_of_nonneg h0] at hcons
      have hnext : k < (lst d).length := by rw [← hL, ← hk', hcons, List.length_append, List.length_cons]; omega
      refine (Run.slice (n := 0)).2 ⟨[tmRow ⟨sel d' 8, d'.getD (sel d' 8).toNat (-1)⟩], rfl, ?_⟩
      have fr := Frame.add (H := H') ⟨2, [tmRow ⟨sel d' 8, d'.getD (sel d' 8).toNat (-1)⟩]⟩ (fun _ => False)
      refine (Run.app (items := [tmRow ⟨sel d' 8, d'.getD (sel d' 8).toNat (-1)⟩]) (by rw [fr.floor, hf]; exact Nat.zero_le _) (ho.frame fr fun _ _ h => h) (by simp [itemsV, Heap.add_next, Heap.add_blk])
        (by simp only [List.length_map, List.length_cons, List.length_nil]; unfold room; omega)).mono fun x' H3 ⟨o3, f3, l3⟩ => ?_
      have hnx := fr.next
      have hnx3 := f3.next
      have hb3 : H3.blk 0 = some ⟨8, [dv d']⟩ := by rw [f3.old 0 (by omega) hl0, Heap.add_old hn, hb0]
      have hx0 : loc x' ≠ some 0 := fun e => by
        rcases l3 0 e with h | h
        · exact hl0 h
        · omega
      (repeat' (first | (simp only [wp, extractV, exists_eq_left', if_true, if_false, ite_true, ite_false, reduceIte, Nat.reduceAdd, Nat.reduceLT, Nat.reduceLeDiff, Nat.reduceEqDiff, hb3, dv_len, h8', f3.floor, fr.floor, hf, dv_set (show (sel d' 8).toNat < d'.length by omega)]) | (with_reducible refine Run.gC ?_ ?_ <;> intro hb <;> try simp only [hb]) | (with_reducible refine Run.gG ?_ ?_ <;> intro hb <;> try simp only [hb]) | (with_reducible refine Run.gQ ?_ ?_ <;> intro hb <;> try simp only [hb])))
      refine ⟨by omega, hnext, x', d'.set (sel d' 8).toNat (-1), L ++ [⟨sel d' 8, d'.getD (sel d' 8).toNat (-1)⟩], rfl, by omega, rfl, by rw [List.length_set, h8'], hx0, ?_, ?_, by rw [List.length_append, hk']; rfl⟩
      · rw [List.map_append]
        exact o3.frame (Frame.set _ _ (p := fun k => k = 0) rfl) fun k hk e => hx0 (e ▸ hk)
      · rw [← hL, hcons, List.append_assoc]; rfl
end Go.Fv.Tr
