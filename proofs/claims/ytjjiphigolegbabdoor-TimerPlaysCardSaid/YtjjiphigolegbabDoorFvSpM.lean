/-
  What the functions of the layer 8 answer: Drop, Fire, Sort; the law's helpers. By an AI agent; no person has read it.
-/
import Derived.Test.YtjjiphigolegbabDoorFvSpL
set_option linter.unusedVariables false
set_option linter.unusedSimpArgs false
set_option linter.unusedSectionVars false
/-! What the functions of the layer 8 answer: Drop, Fire, Sort; the law's helpers. -/
namespace Go.Fv.Tr
open Go Go.Fv Go.Fv.Pl Go.Proofs
set_option linter.unusedSimpArgs false
set_option linter.unusedVariables false
variable {G : Nat → Option (List V)}

theorem wo_lt {ts : List Tm} {p : Int} : (wo ts p).length < ts.length ↔ timed ts p := by
  unfold wo timed
  rw [List.length_filter_lt_length_iff_exists, List.mem_map]
  simp
theorem wo_out {ts : List Tm} {p : Int} (h : ¬ timed ts p) : wo ts p = ts := by
  unfold wo
  rw [List.filter_eq_self]
  intro a ha
  simp only [Bool.not_eq_true', decide_eq_false_iff_not]
  exact fun e => h (List.mem_map.2 ⟨a, ha, e⟩)
theorem good8 (n : Nat) {x : V} {ts : List Tm} (hx : Sls x 2 (ts.map tmRow)) (hl : ts.length ≤ big) : callV (cfg G) (sem (cfg G) (n + 4)) 66 [x, .int .i64 8] = M.ret (.bool (decide (TsOk 8 ts))) := good_spec n hx hl (k := 8) (Nat.le_refl _)

theorem drop_spec (hG : TErrs G) (n : Nat) {x : V} {ts : List Tm} (hx : Sls x 2 (ts.map tmRow)) (hl : ts.length ≤ big) (p : Int) :
    Says (cfg G) (sem (cfg G) (n + 5)) 23 [x, .int .i64 p] fun r =>
      (TsOk 8 ts ∧ ∃ y, r = .tuple [y, .bool (decide (timed ts p)), .nili] ∧ Sls y 2 ((wo ts p).map tmRow)) ∨ (¬ TsOk 8 ts ∧ r = .tuple [.nils, .bool false, errV 0]) := by
  intro ok
  rw [ferry_timer_Drop_eq]
  simp only [ferry_timer_Drop]
  by_cases hok : TsOk 8 ts
  · have h8 := ts_len8 hok
    (repeat' (first | (simp only [wp, extractV, exists_eq_left', if_true, if_false, ite_true, ite_false, reduceIte, Nat.reduceAdd, Nat.reduceLT, Nat.reduceLeDiff, Nat.reduceEqDiff, good8 n hx hl, decide_eq_true hok]) | (with_reducible refine Run.gC ?_ ?_ <;> intro hb <;> try simp only [hb]) | (with_reducible refine Run.gG ?_ ?_ <;> intro hb <;> try simp only [hb]) | (with_reducible refine Run.gQ ?_ ?_ <;> intro hb <;> try simp only [hb])))
    refine (without_spec n hx (by unfold big; omega) (by unfold room; omega) p (by exact Nat.zero_le _)).mono fun y H1 ⟨o, _, _⟩ => ?_
    (repeat' (first | (simp only [wp, extractV, exists_eq_left', if_true, if_false, ite_true, ite_false, reduceIte, Nat.reduceAdd, Nat.reduceLT, Nat.reduceLeDiff, Nat.reduceEqDiff, o.len, hx.len, List.length_map]) | (with_reducible refine Run.gC ?_ ?_ <;> intro hb <;> try simp only [hb]) | (with_reducible refine Run.gG ?_ ?_ <;> intro hb <;> try simp only [hb]) | (with_reducible refine Run.gQ ?_ ?_ <;> intro hb <;> try simp only [hb])))
    obtain ⟨w, _, hw, hs⟩ := o.thawV (flat_tm _) ok
    refine ⟨_, thawV_tup (mapM3 hw (thaw2_bool _ _ _) (thaw2_nili _ _)), .inl ⟨hok, w, ?_, hs⟩⟩
    have : decide (((wo ts p).length : Int) < (ts.length : Int)) = decide (timed ts p) := decide_eq_decide.2 (by rw [← wo_lt]; omega)
    rw [this]
  · (repeat' (first | (simp only [wp, extractV, exists_eq_left', if_true, if_false, ite_true, ite_false, reduceIte, Nat.reduceAdd, Nat.reduceLT, Nat.reduceLeDiff, Nat.reduceEqDiff, good8 n hx hl, decide_eq_false hok, glob_at hG.state]) | (with_reducible refine Run.gC ?_ ?_ <;> intro hb <;> try simp only [hb]) | (with_reducible refine Run.gG ?_ ?_ <;> intro hb <;> try simp only [hb]) | (with_reducible refine Run.gQ ?_ ?_ <;> intro hb <;> try simp only [hb])))
    exact ⟨_, thawV_tup (mapM3 (thaw2_nils _ _) (thaw2_bool _ _ _) (thaw2_err _ _ _)), .inr ⟨hok, rfl⟩⟩

def left (ts : List Tm) (now : Int) : List Tm := ts.filter fun x => now < x.due
theorem Frame.loc {H : Heap} (b b' : Blk) : Frame H ((H.add b).set H.next b') (fun _ => False) :=
  ⟨Nat.le_succ _, rfl, fun l hl _ => by rw [Heap.set_blk, if_neg (by omega), Heap.add_old hl]⟩

theorem fire_spec (hG : TErrs G) (n : Nat) {x : V} {ts : List Tm} (hx : Sls x 2 (ts.map tmRow)) (hl : ts.length ≤ big) (now : Int) :
    Says (cfg G) (sem (cfg G) (n + 5)) 24 [x, .int .i64 now] fun r =>
      (TsOk 8 ts ∧ ∃ y z, r = .tuple [y, z, .nili] ∧ Sls y 1 ((dues ts now).map intRow) ∧ Sls z 2 ((left ts now).map tmRow)) ∨ (¬ TsOk 8 ts ∧ r = .tuple [.nils, .nils, errV 0]) := by
  intro ok
  rw [ferry_timer_Fire_eq]
  simp only [ferry_timer_Fire]
  by_cases hok : TsOk 8 ts
  · have h8 := ts_len8 hok
    (repeat' (first | (simp only [wp, extractV, exists_eq_left', if_true, if_false, ite_true, ite_false, reduceIte, Nat.reduceAdd, Nat.reduceLT, Nat.reduceLeDiff, Nat.reduceEqDiff, good8 n hx hl, decide_eq_true hok, hx.len, List.length_map]) | (with_reducible refine Run.gC ?_ ?_ <;> intro hb <;> try simp only [hb]) | (with_reducible refine Run.gG ?_ ?_ <;> intro hb <;> try simp only [hb]) | (with_reducible refine Run.gQ ?_ ?_ <;> intro hb <;> try simp only [hb])))
    refine Run.loop (N := ts.length) (fun i s H => ∃ a b, s = [a, b, .int .i64 (i : Nat)] ∧ H.floor = 0 ∧ Own H a 1 ((dues (ts.take i) now).map intRow) ∧ Own H b 2 ((left (ts.take i) now).map tmRow) ∧ ∀ k, loc a = some k → loc b ≠ some k)
      ⟨_, _, rfl, rfl, Own.nils _ _, Own.nils _ _, fun k hk => by cases hk⟩ ?_
    rintro i s H hi ⟨a, b, rfl, hf, ha, hb2, hab⟩
    by_cases hlt : i < ts.length
    · have h2 := hx.idx (k := .i64) (i := i) (by simpa using hlt)
      simp only [List.getElem_map] at h2
      have fr := Frame.loc (H := H) ⟨2, [[.int .i64 0, .int .i64 0]]⟩ ⟨2, [tmRow ts[i]]⟩
      simp only [ferry_timer_Fire_l1]
      (repeat' (first | (simp only [wp, extractV, exists_eq_left', if_true, if_false, ite_true, ite_false, reduceIte, Nat.reduceAdd, Nat.reduceLT, Nat.reduceLeDiff, Nat.reduceEqDiff, ltT hlt, h2, hf, tm_len, tm_take, tm_proc, tm_due]) | (with_reducible refine Run.gC ?_ ?_ <;> intro hb <;> try simp only [hb]) | (with_reducible refine Run.gG ?_ ?_ <;> intro hb <;> try simp only [hb]) | (with_reducible refine Run.gQ ?_ ?_ <;> intro hb <;> try simp only [hb])))
      · have hdue : ts[i].due ≤ now := of_decide_eq_true hb
        have hd : dues (ts.take (i + 1)) now = dues (ts.take i) now ++ [ts[i].proc] := by unfold dues; rw [take_snoc hlt, List.filter_append, List.map_append, List.filter_cons_of_pos (by simpa using hdue)]; rfl
        have hle : left (ts.take (i + 1)) now = left (ts.take i) now := by unfold left; rw [take_snoc hlt, List.filter_append, List.filter_cons_of_neg (by simp; omega), List.filter_nil, List.append_nil]
        refine (Run.slice (n := 0)).2 ⟨[intRow ts[i].proc], rfl, ?_⟩
        have fr2 := fr.trans (Frame.add ⟨1, [intRow ts[i].proc]⟩ (fun _ => False)) (r := fun _ => False) (fun _ _ h => h) (fun _ _ h => h)
        have hlen : (dues (ts.take i) now).length ≤ 8 := by unfold dues; rw [List.length_map]; exact Nat.le_trans (List.length_filter_le _ _) (by rw [List.length_take]; omega)
        refine (Run.app (items := [intRow ts[i].proc]) (by rw [fr2.floor, hf]; exact Nat.zero_le _) (ha.frame fr2 fun _ _ h => h) (by simp [itemsV, Heap.add_next, Heap.add_blk]) (by simp only [List.length_map, List.length_cons, List.length_nil]; unfold room; omega)).mono fun x' H3 ⟨o3, f3, l3⟩ => ?_
        (repeat' (first | (simp only [wp, extractV, exists_eq_left', if_true, if_false, ite_true, ite_false, reduceIte, Nat.reduceAdd, Nat.reduceLT, Nat.reduceLeDiff, Nat.reduceEqDiff, addN hlt hl]) | (with_reducible refine Run.gC ?_ ?_ <;> intro hb <;> try simp only [hb]) | (with_reducible refine Run.gG ?_ ?_ <;> intro hb <;> try simp only [hb]) | (with_reducible refine Run.gQ ?_ ?_ <;> intro hb <;> try simp only [hb])))
        refine ⟨hlt, _, _, rfl, by rw [f3.floor, fr2.floor, hf], by rw [hd, List.map_append]; exact o3, by rw [hle]; exact (hb2.frame fr2 fun _ _ h => h).frame f3 fun k hk hk' => hab k hk' hk, fun k hk hk' => ?_⟩
        rcases l3 k hk with h | h
        · exact hab k h hk'
        · have := hb2.lt hk'; have := fr2.next; omega
      · have hdue : now < ts[i].due := by have := of_decide_eq_false hb; omega
        have hd : dues (ts.take (i + 1)) now = dues (ts.take i) now := by unfold dues; rw [take_snoc hlt, List.filter_append, List.filter_cons_of_neg (by simp; omega), List.filter_nil, List.append_nil]
        have hle : left (ts.take (i + 1)) now = left (ts.take i) now ++ [ts[i]] := by unfold left; rw [take_snoc hlt, List.filter_append, List.filter_cons_of_pos (by simpa using hdue)]; rfl
        refine (Run.slice (n := 0)).2 ⟨[tmRow ts[i]], rfl, ?_⟩
        have fr2 := fr.trans (Frame.add ⟨2, [tmRow ts[i]]⟩ (fun _ => False)) (r := fun _ => False) (fun _ _ h => h) (fun _ _ h => h)
        have hlen : (left (ts.take i) now).length ≤ 8 := by unfold left; exact Nat.le_trans (List.length_filter_le _ _) (by rw [List.length_take]; omega)
        refine (Run.app (items := [tmRow ts[i]]) (by rw [fr2.floor, hf]; exact Nat.zero_le _) (hb2.frame fr2 fun _ _ h => h) (by simp [itemsV, Heap.add_next, Heap.add_blk]) (by simp only [List.length_map, List.length_cons, List.length_nil]; unfold room; omega)).mono fun x' H3 ⟨o3, f3, l3⟩ => ?_
        (repeat' (first | (simp only [wp, extractV, exists_eq_left', if_true, if_false, ite_true, ite_false, reduceIte, Nat.reduceAdd, Nat.reduceLT, Nat.reduceLeDiff, Nat.reduceEqDiff, addN hlt hl]) | (with_reducible refine Run.gC ?_ ?_ <;> intro hb <;> try simp only [hb]) | (with_reducible refine Run.gG ?_ ?_ <;> intro hb <;> try simp only [hb]) | (with_reducible refine Run.gQ ?_ ?_ <;> intro hb <;> try simp only [hb])))
        refine ⟨hlt, _, _, rfl, by rw [f3.floor, fr2.floor, hf], by rw [hd]; exact (ha.frame fr2 fun _ _ h => h).frame f3 fun k hk hk' => hab k hk hk', by rw [hle, List.map_append]; exact o3, fun k hk hk' => ?_⟩
        rcases l3 k hk' with h | h
        · exact hab k hk h
        · have := ha.lt hk; have := fr2.next; omega
    · simp only [ferry_timer_Fire_l1]
      rw [take_all (by omega)] at ha hb2
      (repeat' (first | (simp only [wp, extractV, exists_eq_left', if_true, if_false, ite_true, ite_false, reduceIte, Nat.reduceAdd, Nat.reduceLT, Nat.reduceLeDiff, Nat.reduceEqDiff, ltF hlt]) | (with_reducible refine Run.gC ?_ ?_ <;> intro hb <;> try simp only [hb]) | (with_reducible refine Run.gG ?_ ?_ <;> intro hb <;> try simp only [hb]) | (with_reducible refine Run.gQ ?_ ?_ <;> intro hb <;> try simp only [hb])))
      obtain ⟨w, _, hw, hs⟩ := ha.thawV (flat_ir _) ok
      obtain ⟨w2, _, hw2, hs2⟩ := hb2.thawV (flat_tm _) ok
      exact ⟨_, thawV_tup (mapM3 hw hw2 (thaw2_nili _ _)), .inl ⟨hok, w, w2, rfl, hs, hs2⟩⟩
  · (repeat' (first | (simp only [wp, extractV, exists_eq_left', if_true, if_false, ite_true, ite_false, reduceIte, Nat.reduceAdd, Nat.reduceLT, Nat.reduceLeDiff, Nat.reduceEqDiff, good8 n hx hl, decide_eq_false hok, glob_at hG.state]) | (with_reducible refine Run.gC ?_ ?_ <;> intro hb <;> try simp only [hb]) | (with_reducible refine Run.gG ?_ ?_ <;> intro hb <;> try simp only [hb]) | (with_reducible refine Run.gQ ?_ ?_ <;> intro hb <;> try simp only [hb])))
    exact ⟨_, thawV_tup (mapM3 (thaw2_nils _ _) (thaw2_nils _ _) (thaw2_err _ _ _)), .inr ⟨hok, rfl⟩⟩
end Go.Fv.Tr
