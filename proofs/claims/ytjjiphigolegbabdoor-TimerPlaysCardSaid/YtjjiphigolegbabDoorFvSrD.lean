/-
  The document's timers, by process: Check, Set, Drop, Find, Next, Fire, Shift, Sort. By an AI agent; no person has read it.
-/
import Derived.Test.YtjjiphigolegbabDoorFvSrC
set_option linter.unusedVariables false
set_option linter.unusedSimpArgs false
set_option linter.unusedSectionVars false
/-! The document's timers, by process: Check, Set, Drop, Find, Next, Fire, Shift, Sort. -/
namespace Go.Fv.Tr
open Go Go.Fv Go.Fv.Pl Go.Proofs
set_option linter.unusedSimpArgs false
set_option linter.unusedVariables false
variable {G : Nat → Option (List V)}

/-- The errors' numbers. -/
def chkC (ts : List Tm) (k : Int) : Int := if k < 0 ∨ 8 < k then 12 else if TsOk k ts then 0 else 9
def setC (ts : List Tm) (p d : Int) : Int := if TsOk 8 ts then (if right 8 ⟨p, d⟩ then 0 else 12) else 9
def okC (ts : List Tm) : Int := if TsOk 8 ts then 0 else 9
def shiftC (ts : List Tm) (k : Int) : Int := if TsOk 8 ts then (if 1 ≤ k ∧ k ≤ 10000 then 0 else 12) else 9
def setL (ts : List Tm) (p d : Int) : List Tm := if setC ts p d = 0 then setT ts p d else []
def dropL (ts : List Tm) (p : Int) : List Tm := if TsOk 8 ts then wo ts p else []
def fireL (ts : List Tm) (now : Int) : List Tm := if TsOk 8 ts then left ts now else []
def fireF (ts : List Tm) (now : Int) : List Int := if TsOk 8 ts then dues ts now else []
def shiftL (ts : List Tm) (k : Int) : List Tm := if shiftC ts k = 0 then shiftT ts k else []
def sortL (ts : List Tm) : List Tm := if rdCode ts = 0 then isort ts else []
/-- The least due. -/
def lstD : List Tm → Int
  | [] => 0
  | t :: ts => ts.foldl (fun m t => if t.due < m then t.due else m) t.due
theorem lstD_snoc {l : List Tm} {t : Tm} : lstD (l ++ [t]) = if l = [] ∨ t.due < lstD l then t.due else lstD l := by
  cases l with
  | nil => simp [lstD]
  | cons a l => simp [lstD, List.foldl_append]

theorem TsOk_sub {k : Int} (hk : k ≤ 8) {ts : List Tm} : TsOk k ts ↔ TsOk 8 ts ∧ ∀ t ∈ ts, t.proc < k := by
  rw [TsOk_iff, TsOk_iff]
  constructor
  · rintro ⟨h1, h2, h3⟩
    refine ⟨⟨fun t ht => ?_, h2, h3⟩, fun t ht => (h1 t ht).2.1⟩
    have := h1 t ht
    exact ⟨this.1, by have := this.2.1; omega, this.2.2⟩
  · rintro ⟨⟨h1, h2, h3⟩, h4⟩
    refine ⟨fun t ht => ?_, h2, h3⟩
    have := h1 t ht
    exact ⟨this.1, h4 t ht, this.2.2⟩

set_option maxRecDepth 20000 in
theorem check08_spec (n : Nat) {x : V} {ts : List Tm} (hx : Sls x 2 (ts.map tmRow)) (hl : ts.length ≤ big) (k : Int) :
    callV (cfg G) (sem (cfg G) (n + 4)) 101 [x, .int .i64 k] = M.ret (.int .i64 (chkC ts k)) := by
  refine callV_pure0 rfl (by simp [hx.closedV, cI]) rfl ?_
  obtain ⟨d, e1, h8, hd⟩ := form08_spec (G := G) n hx hl
  rw [ferry_ferryref08_Check_eq]
  simp only [ferry_ferryref08_Check, dv_zero]
  by_cases hk : k < 0 ∨ 8 < k
  · (repeat' (first | (simp only [wp, extractV, exists_eq_left', if_true, if_false, ite_true, ite_false, reduceIte, Nat.reduceAdd, Nat.reduceLT, Nat.reduceLeDiff, Nat.reduceEqDiff]) | (with_reducible refine Run.gC ?_ ?_ <;> intro hb <;> try simp only [hb]) | (with_reducible refine Run.gG ?_ ?_ <;> intro hb <;> try simp only [hb]) | (with_reducible refine Run.gQ ?_ ?_ <;> intro hb <;> try simp only [hb])))
    · simp [chkC, hk]
    · simp [chkC, hk]
    · exfalso
      simp only [decide_eq_true_eq, decide_eq_false_iff_not] at *
      omega
  · have d1 := decide_eq_false (show ¬ k < 0 by omega)
    have d2 := decide_eq_false (show ¬ 8 < k by omega)
    by_cases hok : TsOk 8 ts
    · (repeat' (first | (simp only [wp, extractV, exists_eq_left', if_true, if_false, ite_true, ite_false, reduceIte, Nat.reduceAdd, Nat.reduceLT, Nat.reduceLeDiff, Nat.reduceEqDiff, d1, d2, e1, dv_len, h8, len_zero, decide_eq_true hok]) | (with_reducible refine Run.gC ?_ ?_ <;> intro hb <;> try simp only [hb]) | (with_reducible refine Run.gG ?_ ?_ <;> intro hb <;> try simp only [hb]) | (with_reducible refine Run.gQ ?_ ?_ <;> intro hb <;> try simp only [hb])))
      refine Run.loop (N := ts.length) (fun i s H => s = [.int .i64 0, .int .i64 (i : Nat)] ∧ H.floor = 0 ∧ ∀ t ∈ ts.take i, t.proc < k) ⟨rfl, rfl, by simp⟩ ?_
      rintro i s H hi ⟨rfl, hf, hall⟩
      by_cases hlt : i < ts.length
      · have h2 := hx.idx (k := .i64) (i := i) (by simpa using hlt)
        simp only [List.getElem_map] at h2
        simp only [ferry_ferryref08_Check_l1]
        (repeat' (first | (simp only [wp, extractV, exists_eq_left', if_true, if_false, ite_true, ite_false, reduceIte, Nat.reduceAdd, Nat.reduceLT, Nat.reduceLeDiff, Nat.reduceEqDiff, hx.len, List.length_map, ltT hlt, h2, tm_len, tm_take, tm_proc, tm_due, hf, addN hlt hl]) | (with_reducible refine Run.gC ?_ ?_ <;> intro hb <;> try simp only [hb]) | (with_reducible refine Run.gG ?_ ?_ <;> intro hb <;> try simp only [hb]) | (with_reducible refine Run.gQ ?_ ?_ <;> intro hb <;> try simp only [hb])))
        · have hb := of_decide_eq_true hb
          have hno : ¬ TsOk k ts := fun g => by have := ((TsOk_sub (by omega)).1 g).2 _ (List.getElem_mem hlt); omega
          simp [chkC, hk, hno]
        · have hb := of_decide_eq_false hb
          refine ⟨hlt, fun t ht => ?_⟩
          rw [take_snoc hlt] at ht
          rcases List.mem_append.1 ht with g | g
          · exact hall t g
          · rw [List.mem_singleton] at g; subst g; omega
      · simp only [ferry_ferryref08_Check_l1]
        rw [take_all (by omega)] at hall
        have hyes : TsOk k ts := (TsOk_sub (by omega)).2 ⟨hok, hall⟩
        (repeat' (first | (simp only [wp, extractV, exists_eq_left', if_true, if_false, ite_true, ite_false, reduceIte, Nat.reduceAdd, Nat.reduceLT, Nat.reduceLeDiff, Nat.reduceEqDiff, hx.len, List.length_map, ltF hlt]) | (with_reducible refine Run.gC ?_ ?_ <;> intro hb <;> try simp only [hb]) | (with_reducible refine Run.gG ?_ ?_ <;> intro hb <;> try simp only [hb]) | (with_reducible refine Run.gQ ?_ ?_ <;> intro hb <;> try simp only [hb])))
        simp [chkC, hk, hyes]
    · (repeat' (first | (simp only [wp, extractV, exists_eq_left', if_true, if_false, ite_true, ite_false, reduceIte, Nat.reduceAdd, Nat.reduceLT, Nat.reduceLeDiff, Nat.reduceEqDiff, d1, d2, e1, dv_len, h8, len_zero, decide_eq_false hok]) | (with_reducible refine Run.gC ?_ ?_ <;> intro hb <;> try simp only [hb]) | (with_reducible refine Run.gG ?_ ?_ <;> intro hb <;> try simp only [hb]) | (with_reducible refine Run.gQ ?_ ?_ <;> intro hb <;> try simp only [hb])))
      have hno : ¬ TsOk k ts := fun g => hok ((TsOk_sub (by omega)).1 g).1
      simp [chkC, hk, hno]

theorem find08_spec (n : Nat) {x : V} {ts : List Tm} (hx : Sls x 2 (ts.map tmRow)) (hl : ts.length ≤ big) (p : Int) :
    callV (cfg G) (sem (cfg G) (n + 1)) 102 [x, .int .i64 p] = M.ret (.tuple [.int .i64 (dueOf ts p), .bool (decide (timed ts p))]) := by
  refine callV_pure0 rfl (by simp [hx.closedV, cI]) rfl ?_
  rw [ferry_ferryref08_Find_eq]
  simp only [ferry_ferryref08_Find]
  (repeat' (first | (simp only [wp, extractV, exists_eq_left', if_true, if_false, ite_true, ite_false, reduceIte, Nat.reduceAdd, Nat.reduceLT, Nat.reduceLeDiff, Nat.reduceEqDiff, hx.len]) | (with_reducible refine Run.gC ?_ ?_ <;> intro hb <;> try simp only [hb]) | (with_reducible refine Run.gG ?_ ?_ <;> intro hb <;> try simp only [hb]) | (with_reducible refine Run.gQ ?_ ?_ <;> intro hb <;> try simp only [hb])))
  refine Run.loop (N := ts.length) (fun i s H => s = [.int .i64 0, .bool false, .int .i64 (i : Nat)] ∧ H.floor = 0 ∧ ∀ t ∈ ts.take i, t.proc ≠ p) (by simp [Heap.empty]) ?_
  rintro i s H hi ⟨rfl, hf, hs⟩
  by_cases hlt : i < ts.length
  · have h2 := hx.idx (k := .i64) (i := i) (by simpa using hlt)
    simp only [List.getElem_map] at h2
    simp only [ferry_ferryref08_Find_l1]
    (repeat' (first | (simp only [wp, extractV, exists_eq_left', if_true, if_false, ite_true, ite_false, reduceIte, Nat.reduceAdd, Nat.reduceLT, Nat.reduceLeDiff, Nat.reduceEqDiff, hx.len, List.length_map, ltT hlt, h2, addN hlt hl, tmRow, hf]) | (with_reducible refine Run.gC ?_ ?_ <;> intro hb <;> try simp only [hb]) | (with_reducible refine Run.gG ?_ ?_ <;> intro hb <;> try simp only [hb]) | (with_reducible refine Run.gQ ?_ ?_ <;> intro hb <;> try simp only [hb])))
    · have hb : ts[i].proc = p := by simpa using hb
      have : ts.find? (fun t => t.proc == p) = some ts[i] := by
        rw [List.find?_eq_some_iff_getElem]
        refine ⟨by simpa using hb, i, hlt, rfl, fun j hj => ?_⟩
        have := hs ts[j] (List.mem_take_iff_getElem.2 ⟨j, by omega, rfl⟩)
        simpa using this
      have h3 : timed ts p := List.mem_map.2 ⟨ts[i], List.getElem_mem _, hb⟩
      simp [dueOf, this, h3]
    · have hb : ts[i].proc ≠ p := by simpa using hb
      refine ⟨hlt, fun t ht => ?_⟩
      rw [take_snoc hlt] at ht
      rcases List.mem_append.1 ht with h | h
      · exact hs t h
      · rw [List.mem_singleton] at h; subst h; exact hb
  · simp only [ferry_ferryref08_Find_l1]
    (repeat' (first | (simp only [wp, extractV, exists_eq_left', if_true, if_false, ite_true, ite_false, reduceIte, Nat.reduceAdd, Nat.reduceLT, Nat.reduceLeDiff, Nat.reduceEqDiff, hx.len, List.length_map, ltF hlt]) | (with_reducible refine Run.gC ?_ ?_ <;> intro hb <;> try simp only [hb]) | (with_reducible refine Run.gG ?_ ?_ <;> intro hb <;> try simp only [hb]) | (with_reducible refine Run.gQ ?_ ?_ <;> intro hb <;> try simp only [hb])))
    rw [take_all (by omega)] at hs
    have h1 : ts.find? (fun t => t.proc == p) = none := by
      rw [List.find?_eq_none]
      intro t ht
      simpa using hs t ht
    have h2 : ¬ timed ts p := fun h => by
      obtain ⟨t, ht, e⟩ := List.mem_map.1 h
      exact hs t ht e
    simp [dueOf, h1, h2]

theorem next08_spec (n : Nat) {x : V} {ts : List Tm} (hx : Sls x 2 (ts.map tmRow)) (hl : ts.length ≤ big) :
    callV (cfg G) (sem (cfg G) (n + 1)) 103 [x] = M.ret (.tuple [.int .i64 (lstD ts), .bool (decide (ts ≠ []))]) := by
  refine callV_pure0 rfl (by simp [hx.closedV]) rfl ?_
  rw [ferry_ferryref08_Next_eq]
  simp only [ferry_ferryref08_Next]
  (repeat' (first | (simp only [wp, extractV, exists_eq_left', if_true, if_false, ite_true, ite_false, reduceIte, Nat.reduceAdd, Nat.reduceLT, Nat.reduceLeDiff, Nat.reduceEqDiff, hx.len]) | (with_reducible refine Run.gC ?_ ?_ <;> intro hb <;> try simp only [hb]) | (with_reducible refine Run.gG ?_ ?_ <;> intro hb <;> try simp only [hb]) | (with_reducible refine Run.gQ ?_ ?_ <;> intro hb <;> try simp only [hb])))
  refine Run.loop (N := ts.length) (fun i s H => s = [.int .i64 (lstD (ts.take i)), .bool (decide (0 < i)), .int .i64 (i : Nat)] ∧ H.floor = 0) ⟨by simp [lstD], rfl⟩ ?_
  rintro i s H hi ⟨rfl, hf⟩
  by_cases hlt : i < ts.length
  · have h2 := hx.idx (k := .i64) (i := i) (by simpa using hlt)
    simp only [List.getElem_map] at h2
    have hz : ts.take i = [] ↔ ¬ 0 < i := by
      rw [List.take_eq_nil_iff]
      constructor
      · rintro (h | h)
        · omega
        · subst h; simp at hlt
      · intro h; left; omega
    have hsn := lstD_snoc (l := ts.take i) (t := ts[i])
    rw [← take_snoc hlt] at hsn
    have hp : decide (0 < i + 1) = true := by simp
    simp only [ferry_ferryref08_Next_l1, ferry_ferryref08_Next_j1]
    by_cases h0 : 0 < i
    · (repeat' (first | (simp only [wp, extractV, exists_eq_left', if_true, if_false, ite_true, ite_false, reduceIte, Nat.reduceAdd, Nat.reduceLT, Nat.reduceLeDiff, Nat.reduceEqDiff, hx.len, List.length_map, ltT hlt, h2, addN hlt hl, tm_due, hf, decide_eq_true h0, hp]) | (with_reducible refine Run.gC ?_ ?_ <;> intro hb <;> try simp only [hb]) | (with_reducible refine Run.gG ?_ ?_ <;> intro hb <;> try simp only [hb]) | (with_reducible refine Run.gQ ?_ ?_ <;> intro hb <;> try simp only [hb])))
      · exact ⟨hlt, by rw [hsn, if_pos (.inr (of_decide_eq_true hb))]; simp only [decide_true]⟩
      · exact ⟨hlt, by rw [hsn, if_neg (fun g => g.elim (fun g => hz.1 g h0) (of_decide_eq_false hb))]; simp only [decide_true]⟩
    · (repeat' (first | (simp only [wp, extractV, exists_eq_left', if_true, if_false, ite_true, ite_false, reduceIte, Nat.reduceAdd, Nat.reduceLT, Nat.reduceLeDiff, Nat.reduceEqDiff, hx.len, List.length_map, ltT hlt, h2, addN hlt hl, tm_due, hf, decide_eq_false h0, hp]) | (with_reducible refine Run.gC ?_ ?_ <;> intro hb <;> try simp only [hb]) | (with_reducible refine Run.gG ?_ ?_ <;> intro hb <;> try simp only [hb]) | (with_reducible refine Run.gQ ?_ ?_ <;> intro hb <;> try simp only [hb])))
      exact ⟨hlt, by rw [hsn, if_pos (.inl (hz.2 h0))]; simp only [decide_true]⟩
  · simp only [ferry_ferryref08_Next_l1]
    (repeat' (first | (simp only [wp, extractV, exists_eq_left', if_true, if_false, ite_true, ite_false, reduceIte, Nat.reduceAdd, Nat.reduceLT, Nat.reduceLeDiff, Nat.reduceEqDiff, hx.len, List.length_map, ltF hlt]) | (with_reducible refine Run.gC ?_ ?_ <;> intro hb <;> try simp only [hb]) | (with_reducible refine Run.gG ?_ ?_ <;> intro hb <;> try simp only [hb]) | (with_reducible refine Run.gQ ?_ ?_ <;> intro hb <;> try simp only [hb])))
    have e : i = ts.length := by omega
    rw [take_all (by omega), e]
    congr 4
    cases ts <;> simp

/-- What Form answers of a list in form, with the list told anew. -/
theorem list_rd (n : Nat) {ts : List Tm} (hok : TsOk 8 ts) {d' : List Int} {L : List Tm} (h8 : d'.length = 8) (hL : lst d' = L) :
    ∃ r, callV (cfg G) (sem (cfg G) (n + 1)) 64 [.agg (dv d')] = M.ret r ∧ Sls r 2 (L.map tmRow) := by
  subst hL
  exact (list08_spec (G := G) n h8).eq rfl (by simp [dv_closed])

set_option maxRecDepth 20000 in
theorem set08_spec (n : Nat) {x : V} {ts : List Tm} (hx : Sls x 2 (ts.map tmRow)) (hl : ts.length ≤ big) (p d : Int) :
    ∃ y, callV (cfg G) (sem (cfg G) (n + 4)) 17 [x, .int .i64 p, .int .i64 d] = M.ret (.tuple [y, .int .i64 (setC ts p d)]) ∧ Sls y 2 ((setL ts p d).map tmRow) := by
  obtain ⟨d0, e1, h8, hd⟩ := form08_spec (G := G) n hx hl
  by_cases hok : TsOk 8 ts
  · by_cases hr : right 8 ⟨p, d⟩
    · have hd := hd hok
      subst hd
      have h1 : 0 ≤ p := hr.1; have h2 : p < 8 := hr.2.1; have h3 : 0 ≤ d := hr.2.2.1; have h4 : d ≤ 1010000 := hr.2.2.2
      obtain ⟨r, e2, hs⟩ := list_rd (G := G) (n + 2) hok (d' := (rd ts).set p.toNat d) (by rw [List.length_set, h8]) (lst_set hok hr)
      have hc : setC ts p d = 0 := by unfold setC; rw [if_pos hok, if_pos hr]
      refine ⟨r, callV_pure0 rfl (by simp [hx.closedV, cI]) (by simp [V.closedT, hs.closedV, cI]) ?_, by rw [setL, if_pos hc]; exact hs⟩
      rw [ferry_ferryref08_Set_eq]
      simp only [ferry_ferryref08_Set, dv_zero]
      have hp8 : p.toNat < (rd ts).length := by omega
      have hp9 : p.toNat + 1 ≤ 8 := by omega
      have hl8 : ((rd ts).set p.toNat d).length = 8 := by rw [List.length_set, h8]
      (repeat' (first | (simp only [wp, extractV, exists_eq_left', if_true, if_false, ite_true, ite_false, reduceIte, Nat.reduceAdd, Nat.reduceLT, Nat.reduceLeDiff, Nat.reduceEqDiff, e1, dv_len, h8, len_zero, dv_drop len_zero, decide_eq_true hok, decide_eq_false (show ¬ p < 0 by omega), decide_eq_false (show ¬ 8 ≤ p by omega), decide_eq_false (show ¬ d < 0 by omega), decide_eq_false (show ¬ 1010000 < d by omega), aidx8 h1 h2, dv_set hp8, hp9, hl8, dv_take hl8, e2, hc]) | (with_reducible refine Run.gC ?_ ?_ <;> intro hb <;> try simp only [hb]) | (with_reducible refine Run.gG ?_ ?_ <;> intro hb <;> try simp only [hb]) | (with_reducible refine Run.gQ ?_ ?_ <;> intro hb <;> try simp only [hb])))
    · have hc : setC ts p d = 12 := by unfold setC; rw [if_pos hok, if_neg hr]
      refine ⟨.nils, callV_pure0 rfl (by simp [hx.closedV, cI]) rfl ?_, by rw [setL, hc]; exact Sls.nils _⟩
      rw [ferry_ferryref08_Set_eq]
      simp only [ferry_ferryref08_Set, dv_zero]
      (repeat' (first | (simp only [wp, extractV, exists_eq_left', if_true, if_false, ite_true, ite_false, reduceIte, Nat.reduceAdd, Nat.reduceLT, Nat.reduceLeDiff, Nat.reduceEqDiff, e1, dv_len, h8, len_zero, decide_eq_true hok, hc]) | (with_reducible refine Run.gC ?_ ?_ <;> intro hb <;> try simp only [hb]) | (with_reducible refine Run.gG ?_ ?_ <;> intro hb <;> try simp only [hb]) | (with_reducible refine Run.gQ ?_ ?_ <;> intro hb <;> try simp only [hb])))
      all_goals
        exfalso
        simp only [decide_eq_true_eq, decide_eq_false_iff_not] at *
        exact hr (show 0 ≤ p ∧ p < 8 ∧ 0 ≤ d ∧ d ≤ 1010000 from ⟨by omega, by omega, by omega, by omega⟩)
  · have hc : setC ts p d = 9 := by unfold setC; rw [if_neg hok]
    refine ⟨.nils, callV_pure0 rfl (by simp [hx.closedV, cI]) rfl ?_, by rw [setL, hc]; exact Sls.nils _⟩
    rw [ferry_ferryref08_Set_eq]
    simp only [ferry_ferryref08_Set, dv_zero]
    (repeat' (first | (simp only [wp, extractV, exists_eq_left', if_true, if_false, ite_true, ite_false, reduceIte, Nat.reduceAdd, Nat.reduceLT, Nat.reduceLeDiff, Nat.reduceEqDiff, e1, dv_len, h8, len_zero, decide_eq_false hok, hc]) | (with_reducible refine Run.gC ?_ ?_ <;> intro hb <;> try simp only [hb]) | (with_reducible refine Run.gG ?_ ?_ <;> intro hb <;> try simp only [hb]) | (with_reducible refine Run.gQ ?_ ?_ <;> intro hb <;> try simp only [hb])))

set_option maxRecDepth 20000 in
theorem drop08_spec (n : Nat) {x : V} {ts : List Tm} (hx : Sls x 2 (ts.map tmRow)) (hl : ts.length ≤ big) (p : Int) :
    ∃ y, callV (cfg G) (sem (cfg G) (n + 4)) 18 [x, .int .i64 p] = M.ret (.tuple [y, .bool (decide (TsOk 8 ts ∧ timed ts p)), .int .i64 (okC ts)]) ∧ Sls y 2 ((dropL ts p).map tmRow) := by
  obtain ⟨d0, e1, h8, hd⟩ := form08_spec (G := G) n hx hl
  by_cases hok : TsOk 8 ts
  · have hd := hd hok
    subst hd
    have hc : okC ts = 0 := by unfold okC; rw [if_pos hok]
    by_cases hp : 0 ≤ p ∧ p < 8
    · have hneg := rd_neg hok.mem (p := p.toNat) (by omega)
      rw [Int.toNat_of_nonneg hp.1] at hneg
      have hp8 : p.toNat < (rd ts).length := by omega
      have hp9 : p.toNat + 1 ≤ 8 := by omega
      by_cases ht : timed ts p
      · obtain ⟨r, e2, hs⟩ := list_rd (G := G) (n + 2) hok (d' := (rd ts).set p.toNat (-1)) (by rw [List.length_set, h8]) (lst_drop hok hp.1 hp.2)
        refine ⟨r, callV_pure0 rfl (by simp [hx.closedV, cI]) (by simp [V.closedT, hs.closedV, cI, cB]) ?_, by rw [dropL, if_pos hok]; exact hs⟩
        rw [ferry_ferryref08_Drop_eq]
        simp only [ferry_ferryref08_Drop, ferry_ferryref08_Drop_j1, dv_zero]
        have hl8 : ((rd ts).set p.toNat (-1)).length = 8 := by rw [List.length_set, h8]
        have hge : 0 ≤ (rd ts).getD p.toNat (-1) := by
          by_cases g : (rd ts).getD p.toNat (-1) < 0
          · exact absurd ht (hneg.1 g)
          · omega
        (repeat' (first | (simp only [wp, extractV, exists_eq_left', if_true, if_false, ite_true, ite_false, reduceIte, Nat.reduceAdd, Nat.reduceLT, Nat.reduceLeDiff, Nat.reduceEqDiff, e1, dv_len, h8, len_zero, dv_drop len_zero, decide_eq_true hok, decide_eq_true hp.1, decide_eq_true hp.2, aidx8 hp.1 hp.2, dv_get hp8, decide_eq_true hge, dv_set hp8, hp9, hl8, dv_take hl8, e2, hc, decide_eq_true (show TsOk 8 ts ∧ timed ts p from ⟨hok, ht⟩)]) | (with_reducible refine Run.gC ?_ ?_ <;> intro hb <;> try simp only [hb]) | (with_reducible refine Run.gG ?_ ?_ <;> intro hb <;> try simp only [hb]) | (with_reducible refine Run.gQ ?_ ?_ <;> intro hb <;> try simp only [hb])))
      · obtain ⟨r, e2, hs⟩ := list_rd (G := G) (n + 2) hok h8 (lst_rd_ok hok)
        refine ⟨r, callV_pure0 rfl (by simp [hx.closedV, cI]) (by simp [V.closedT, hs.closedV, cI, cB]) ?_, by rw [dropL, if_pos hok, wo_out ht]; exact hs⟩
        rw [ferry_ferryref08_Drop_eq]
        simp only [ferry_ferryref08_Drop, ferry_ferryref08_Drop_j1, dv_zero]
        have hlt : ¬ 0 ≤ (rd ts).getD p.toNat (-1) := by have := hneg.2 ht; omega
        (repeat' (first | (simp only [wp, extractV, exists_eq_left', if_true, if_false, ite_true, ite_false, reduceIte, Nat.reduceAdd, Nat.reduceLT, Nat.reduceLeDiff, Nat.reduceEqDiff, e1, dv_len, h8, len_zero, dv_drop len_zero, decide_eq_true hok, decide_eq_true hp.1, decide_eq_true hp.2, aidx8 hp.1 hp.2, dv_get hp8, decide_eq_false hlt, dv_take h8, e2, hc, decide_eq_false (show ¬ (TsOk 8 ts ∧ timed ts p) from fun g => ht g.2)]) | (with_reducible refine Run.gC ?_ ?_ <;> intro hb <;> try simp only [hb]) | (with_reducible refine Run.gG ?_ ?_ <;> intro hb <;> try simp only [hb]) | (with_reducible refine Run.gQ ?_ ?_ <;> intro hb <;> try simp only [hb])))
    · have ht : ¬ timed ts p := fun g => by
        obtain ⟨t, ht, e⟩ := List.mem_map.1 g
        have := hok.mem t ht
        exact hp ⟨by have := this.1; omega, by have := this.2.1; omega⟩
      obtain ⟨r, e2, hs⟩ := list_rd (G := G) (n + 2) hok h8 (lst_rd_ok hok)
      refine ⟨r, callV_pure0 rfl (by simp [hx.closedV, cI]) (by simp [V.closedT, hs.closedV, cI, cB]) ?_, by rw [dropL, if_pos hok, wo_out ht]; exact hs⟩
      rw [ferry_ferryref08_Drop_eq]
      simp only [ferry_ferryref08_Drop, ferry_ferryref08_Drop_j1, dv_zero]
      (repeat' (first | (simp only [wp, extractV, exists_eq_left', if_true, if_false, ite_true, ite_false, reduceIte, Nat.reduceAdd, Nat.reduceLT, Nat.reduceLeDiff, Nat.reduceEqDiff, e1, dv_len, h8, len_zero, dv_drop len_zero, decide_eq_true hok, dv_take h8, e2, hc, decide_eq_false (show ¬ (TsOk 8 ts ∧ timed ts p) from fun g => ht g.2)]) | (with_reducible refine Run.gC ?_ ?_ <;> intro hb <;> try simp only [hb]) | (with_reducible refine Run.gG ?_ ?_ <;> intro hb <;> try simp only [hb]) | (with_reducible refine Run.gQ ?_ ?_ <;> intro hb <;> try simp only [hb])))
      all_goals
        exfalso
        simp only [decide_eq_true_eq, decide_eq_false_iff_not] at *
        exact hp ⟨by omega, by omega⟩
  · have hc : okC ts = 9 := by unfold okC; rw [if_neg hok]
    refine ⟨.nils, callV_pure0 rfl (by simp [hx.closedV, cI]) rfl ?_, by rw [dropL, if_neg hok]; exact Sls.nils _⟩
    rw [ferry_ferryref08_Drop_eq]
    simp only [ferry_ferryref08_Drop, dv_zero]
    (repeat' (first | (simp only [wp, extractV, exists_eq_left', if_true, if_false, ite_true, ite_false, reduceIte, Nat.reduceAdd, Nat.reduceLT, Nat.reduceLeDiff, Nat.reduceEqDiff, e1, dv_len, h8, len_zero, decide_eq_false hok, hc, decide_eq_false (show ¬ (TsOk 8 ts ∧ timed ts p) from fun g => hok g.1)]) | (with_reducible refine Run.gC ?_ ?_ <;> intro hb <;> try simp only [hb]) | (with_reducible refine Run.gG ?_ ?_ <;> intro hb <;> try simp only [hb]) | (with_reducible refine Run.gQ ?_ ?_ <;> intro hb <;> try simp only [hb])))

set_option maxRecDepth 20000 in
theorem sort08_spec (n : Nat) {x : V} {ts : List Tm} (hx : Sls x 2 (ts.map tmRow)) (hl : ts.length ≤ big) :
    ∃ y, callV (cfg G) (sem (cfg G) (n + 3)) 21 [x] = M.ret (.tuple [y, .int .i64 (rdCode ts)]) ∧ Sls y 2 ((sortL ts).map tmRow) := by
  have hrl := rdOf_len ts
  by_cases hc : rdCode ts = 0
  · have hr : allRight ts ∧ (ts.map Tm.proc).Nodup := by
      unfold rdCode at hc
      split at hc
      · split at hc
        · exact ⟨by assumption, by assumption⟩
        · cases hc
      · cases hc
    have hrd : rdOf ts = rd ts := by unfold rdOf; rw [if_pos hr]
    have hlen := rd_len ts
    obtain ⟨r, e2, hs⟩ := (list08_spec (G := G) (n + 1) hlen).eq rfl (by simp [dv_closed])
    rw [lst_rd hr.1 hr.2] at hs
    refine ⟨r, callV_pure0 rfl (by simp [hx.closedV]) (by simp [V.closedT, hs.closedV, cI]) ?_, by rw [sortL, if_pos hc]; exact hs⟩
    rw [ferry_ferryref08_Sort_eq]
    simp only [ferry_ferryref08_Sort, dv_zero]
    (repeat' (first | (simp only [wp, extractV, exists_eq_left', if_true, if_false, ite_true, ite_false, reduceIte, Nat.reduceAdd, Nat.reduceLT, Nat.reduceLeDiff, Nat.reduceEqDiff, read08_spec n hx hl, dv_len, hrl, len_zero, dv_drop len_zero, hc, hrd, hlen, dv_take hlen, e2, beq_self_eq_true]) | (with_reducible refine Run.gC ?_ ?_ <;> intro hb <;> try simp only [hb]) | (with_reducible refine Run.gG ?_ ?_ <;> intro hb <;> try simp only [hb]) | (with_reducible refine Run.gQ ?_ ?_ <;> intro hb <;> try simp only [hb])))
  · have hc' : (rdCode ts == 0) = false := by simpa using hc
    refine ⟨.nils, callV_pure0 rfl (by simp [hx.closedV]) rfl ?_, by rw [sortL, if_neg hc]; exact Sls.nils _⟩
    rw [ferry_ferryref08_Sort_eq]
    simp only [ferry_ferryref08_Sort, dv_zero]
    (repeat' (first | (simp only [wp, extractV, exists_eq_left', if_true, if_false, ite_true, ite_false, reduceIte, Nat.reduceAdd, Nat.reduceLT, Nat.reduceLeDiff, Nat.reduceEqDiff, read08_spec n hx hl, dv_len, hrl, len_zero, dv_drop len_zero, hc']) | (with_reducible refine Run.gC ?_ ?_ <;> intro hb <;> try simp only [hb]) | (with_reducible refine Run.gG ?_ ?_ <;> intro hb <;> try simp only [hb]) | (with_reducible refine Run.gQ ?_ ?_ <;> intro hb <;> try simp only [hb])))

theorem shT_le {t : Tm} {k : Int} : (shT k t).due = shD k t.due ∨ t.due < 0 := by
  by_cases h : 0 ≤ t.due
  · left; unfold shD; rw [if_pos h]; rfl
  · right; omega
set_option maxRecDepth 20000 in
theorem shift08_spec (n : Nat) {x : V} {ts : List Tm} (hx : Sls x 2 (ts.map tmRow)) (hl : ts.length ≤ big) (k : Int) :
    ∃ y, callV (cfg G) (sem (cfg G) (n + 4)) 20 [x, .int .i64 k] = M.ret (.tuple [y, .int .i64 (shiftC ts k)]) ∧ Sls y 2 ((shiftL ts k).map tmRow) := by
  obtain ⟨d0, e1, h8, hd⟩ := form08_spec (G := G) n hx hl
  by_cases hok : TsOk 8 ts
  · by_cases hk : 1 ≤ k ∧ k ≤ 10000
    · have hd := hd hok
      subst hd
      obtain ⟨r, e2, hs⟩ := list_rd (G := G) (n + 2) hok (d' := (rd ts).map (shD k)) (by rw [List.length_map, h8]) (lst_shift hok k)
      have hc : shiftC ts k = 0 := by unfold shiftC; rw [if_pos hok, if_pos hk]
      refine ⟨r, callV_pure0 rfl (by simp [hx.closedV, cI]) (by simp [V.closedT, hs.closedV, cI]) ?_, by rw [shiftL, if_pos hc]; exact hs⟩
      rw [ferry_ferryref08_Shift_eq]
      simp only [ferry_ferryref08_Shift, dv_zero]
      (repeat' (first | (simp only [wp, extractV, exists_eq_left', if_true, if_false, ite_true, ite_false, reduceIte, Nat.reduceAdd, Nat.reduceLT, Nat.reduceLeDiff, Nat.reduceEqDiff, e1, dv_len, h8, len_zero, dv_drop len_zero, decide_eq_true hok, decide_eq_false (show ¬ k < 1 by omega), decide_eq_false (show ¬ 10000 < k by omega)]) | (with_reducible refine Run.gC ?_ ?_ <;> intro hb <;> try simp only [hb]) | (with_reducible refine Run.gG ?_ ?_ <;> intro hb <;> try simp only [hb]) | (with_reducible refine Run.gQ ?_ ?_ <;> intro hb <;> try simp only [hb])))
      refine Run.loop (N := 8) (fun i s H => s = [.int .i64 (i : Nat)] ∧ H.floor = 0 ∧ H.blk 0 = some ⟨8, [dv (((rd ts).take i).map (shD k) ++ (rd ts).drop i)]⟩) ⟨rfl, rfl, by simp [Heap.set_blk]⟩ ?_
      rintro i s H hi ⟨rfl, hf, hb0⟩
      by_cases hlt : i < 8
      · have hlt' : i < (rd ts).length := by omega
        have hlm : (((rd ts).take i).map (shD k) ++ (rd ts).drop i).length = 8 := by rw [List.length_append, List.length_map, List.length_take, List.length_drop]; omega
        have hget : (((rd ts).take i).map (shD k) ++ (rd ts).drop i).getD i (-1) = (rd ts)[i] := by rw [List.getD_eq_getElem?_getD, mix_get (shD k) (rd ts) hlt']; rfl
        have hlti : i < (((rd ts).take i).map (shD k) ++ (rd ts).drop i).length := by omega
        have hst := mix_set (shD k) (rd ts) hlt'
        simp only [ferry_ferryref08_Shift_l1, ferry_ferryref08_Shift_j1]
        by_cases h0 : 0 ≤ (rd ts)[i]
        · have hle : (rd ts)[i] ≤ 1010000 := by
            have hm := (rd_perm hok.mem hok.nodup).mem_iff.1 (mem_tmsF.2 ⟨i, (rd ts)[i], List.getElem?_eq_getElem hlt', h0, rfl⟩)
            exact (hok.mem _ hm).2.2.2
          have hs : arithV .sub (.int .i64 (rd ts)[i]) (.int .i64 k) = some (.int .i64 ((rd ts)[i] - k)) := arith_sub (by omega) (by omega)
          have hmx : maxV (.int .i64 ((rd ts)[i] - k)) (.int .i64 0) = some (.int .i64 (shD k (rd ts)[i])) := by unfold shD; rw [if_pos h0]; rfl
          (repeat' (first | (simp only [wp, extractV, exists_eq_left', if_true, if_false, ite_true, ite_false, reduceIte, Nat.reduceAdd, Nat.reduceLT, Nat.reduceLeDiff, Nat.reduceEqDiff, lt8T hlt, aidx8 (p := i) (by omega) (by omega), Int.toNat_natCast, hf, hb0, dv_len, hlm, dv_get hlti, hget, decide_eq_true h0, hs, hmx, dv_set hlti, hst, addN hlt (show 8 ≤ big by decide)]) | (with_reducible refine Run.gC ?_ ?_ <;> intro hb <;> try simp only [hb]) | (with_reducible refine Run.gG ?_ ?_ <;> intro hb <;> try simp only [hb]) | (with_reducible refine Run.gQ ?_ ?_ <;> intro hb <;> try simp only [hb])))
          exact ⟨by omega, hlt⟩
        · have hsame : shD k (rd ts)[i] = (rd ts)[i] := by unfold shD; rw [if_neg h0]
          (repeat' (first | (simp only [wp, extractV, exists_eq_left', if_true, if_false, ite_true, ite_false, reduceIte, Nat.reduceAdd, Nat.reduceLT, Nat.reduceLeDiff, Nat.reduceEqDiff, lt8T hlt, aidx8 (p := i) (by omega) (by omega), Int.toNat_natCast, hf, hb0, dv_len, hlm, dv_get hlti, hget, decide_eq_false h0, addN hlt (show 8 ≤ big by decide)]) | (with_reducible refine Run.gC ?_ ?_ <;> intro hb <;> try simp only [hb]) | (with_reducible refine Run.gG ?_ ?_ <;> intro hb <;> try simp only [hb]) | (with_reducible refine Run.gQ ?_ ?_ <;> intro hb <;> try simp only [hb])))
          rw [hsame, set_same (mix_get (shD k) (rd ts) hlt')] at hst
          exact ⟨hlt, by rw [hst]⟩
      · simp only [ferry_ferryref08_Shift_l1]
        rw [take_all (by omega), List.drop_of_length_le (by omega), List.append_nil] at hb0
        have hlm : ((rd ts).map (shD k)).length = 8 := by rw [List.length_map, h8]
        (repeat' (first | (simp only [wp, extractV, exists_eq_left', if_true, if_false, ite_true, ite_false, reduceIte, Nat.reduceAdd, Nat.reduceLT, Nat.reduceLeDiff, Nat.reduceEqDiff, lt8F hlt, hb0, dv_len, hlm, dv_take hlm, e2, hc]) | (with_reducible refine Run.gC ?_ ?_ <;> intro hb <;> try simp only [hb]) | (with_reducible refine Run.gG ?_ ?_ <;> intro hb <;> try simp only [hb]) | (with_reducible refine Run.gQ ?_ ?_ <;> intro hb <;> try simp only [hb])))
    · have hc : shiftC ts k = 12 := by unfold shiftC; rw [if_pos hok, if_neg hk]
      refine ⟨.nils, callV_pure0 rfl (by simp [hx.closedV, cI]) rfl ?_, by rw [shiftL, hc]; exact Sls.nils _⟩
      rw [ferry_ferryref08_Shift_eq]
      simp only [ferry_ferryref08_Shift, dv_zero]
      (repeat' (first | (simp only [wp, extractV, exists_eq_left', if_true, if_false, ite_true, ite_false, reduceIte, Nat.reduceAdd, Nat.reduceLT, Nat.reduceLeDiff, Nat.reduceEqDiff, e1, dv_len, h8, len_zero, decide_eq_true hok, hc]) | (with_reducible refine Run.gC ?_ ?_ <;> intro hb <;> try simp only [hb]) | (with_reducible refine Run.gG ?_ ?_ <;> intro hb <;> try simp only [hb]) | (with_reducible refine Run.gQ ?_ ?_ <;> intro hb <;> try simp only [hb])))
      all_goals
        exfalso
        simp only [decide_eq_true_eq, decide_eq_false_iff_not] at *
        exact hk ⟨by omega, by omega⟩
  · have hc : shiftC ts k = 9 := by unfold shiftC; rw [if_neg hok]
    refine ⟨.nils, callV_pure0 rfl (by simp [hx.closedV, cI]) rfl ?_, by rw [shiftL, hc]; exact Sls.nils _⟩
    rw [ferry_ferryref08_Shift_eq]
    simp only [ferry_ferryref08_Shift, dv_zero]
    (repeat' (first | (simp only [wp, extractV, exists_eq_left', if_true, if_false, ite_true, ite_false, reduceIte, Nat.reduceAdd, Nat.reduceLT, Nat.reduceLeDiff, Nat.reduceEqDiff, e1, dv_len, h8, len_zero, decide_eq_false hok, hc]) | (with_reducible refine Run.gC ?_ ?_ <;> intro hb <;> try simp only [hb]) | (with_reducible refine Run.gG ?_ ?_ <;> intro hb <;> try simp only [hb]) | (with_reducible refine Run.gQ ?_ ?_ <;> intro hb <;> try simp only [hb])))

set_option maxRecDepth 20000 in
theorem fire08_spec (n : Nat) {x : V} {ts : List Tm} (hx : Sls x 2 (ts.map tmRow)) (hl : ts.length ≤ big) (now : Int) :
    ∃ y z, callV (cfg G) (sem (cfg G) (n + 4)) 19 [x, .int .i64 now] = M.ret (.tuple [y, z, .int .i64 (okC ts)]) ∧ Sls y 1 ((fireF ts now).map intRow) ∧ Sls z 2 ((fireL ts now).map tmRow) := by
  obtain ⟨d0, e1, hd8, hd⟩ := form08_spec (G := G) n hx hl
  by_cases hok : TsOk 8 ts
  · have h8 := ts_len8 hok
    have hc : okC ts = 0 := by unfold okC; rw [if_pos hok]
    rw [fireF, fireL, if_pos hok, if_pos hok, hc]
    suffices h : ∃ r, callV (cfg G) (sem (cfg G) (n + 4)) 19 [x, .int .i64 now] = M.ret r ∧ ∃ y z, r = .tuple [y, z, .int .i64 0] ∧ Sls y 1 ((dues ts now).map intRow) ∧ Sls z 2 ((left ts now).map tmRow) by
      obtain ⟨r, e, y, z, rfl, h1, h2⟩ := h
      exact ⟨y, z, e, h1, h2⟩
    refine callV_pureE rfl (by simp [hx.closedV, cI]) ?_
    rw [ferry_ferryref08_Fire_eq]
    simp only [ferry_ferryref08_Fire, dv_zero]
    (repeat' (first | (simp only [wp, extractV, exists_eq_left', if_true, if_false, ite_true, ite_false, reduceIte, Nat.reduceAdd, Nat.reduceLT, Nat.reduceLeDiff, Nat.reduceEqDiff, e1, dv_len, hd8, len_zero, dv_drop len_zero, decide_eq_true hok]) | (with_reducible refine Run.gC ?_ ?_ <;> intro hb <;> try simp only [hb]) | (with_reducible refine Run.gG ?_ ?_ <;> intro hb <;> try simp only [hb]) | (with_reducible refine Run.gQ ?_ ?_ <;> intro hb <;> try simp only [hb])))
    refine Run.loop (N := ts.length) (fun i s H => ∃ a b, s = [a, b, .int .i64 (i : Nat)] ∧ H.floor = 0 ∧ Own H a 1 ((dues (ts.take i) now).map intRow) ∧ Own H b 2 ((left (ts.take i) now).map tmRow) ∧ ∀ k, loc a = some k → loc b ≠ some k)
      ⟨_, _, rfl, rfl, Own.nils _ _, Own.nils _ _, fun k hk => by cases hk⟩ ?_
    rintro i s H hi ⟨a, b, rfl, hf, ha, hb2, hab⟩
    by_cases hlt : i < ts.length
    · have h2 := hx.idx (k := .i64) (i := i) (by simpa using hlt)
      simp only [List.getElem_map] at h2
      simp only [ferry_ferryref08_Fire_l1, ferry_ferryref08_Fire_j1]
      (repeat' (first | (simp only [wp, extractV, exists_eq_left', if_true, if_false, ite_true, ite_false, reduceIte, Nat.reduceAdd, Nat.reduceLT, Nat.reduceLeDiff, Nat.reduceEqDiff, hx.len, List.length_map, ltT hlt, h2, hf, tm_len, tm_take, tm_proc, tm_due]) | (with_reducible refine Run.gC ?_ ?_ <;> intro hb <;> try simp only [hb]) | (with_reducible refine Run.gG ?_ ?_ <;> intro hb <;> try simp only [hb]) | (with_reducible refine Run.gQ ?_ ?_ <;> intro hb <;> try simp only [hb])))
      · have hdue : ts[i].due ≤ now := of_decide_eq_true hb
        have hd : dues (ts.take (i + 1)) now = dues (ts.take i) now ++ [ts[i].proc] := by unfold dues; rw [take_snoc hlt, List.filter_append, List.map_append, List.filter_cons_of_pos (by simpa using hdue)]; rfl
        have hle : left (ts.take (i + 1)) now = left (ts.take i) now := by unfold left; rw [take_snoc hlt, List.filter_append, List.filter_cons_of_neg (by simp; omega), List.filter_nil, List.append_nil]
        refine (Run.slice (n := 0)).2 ⟨[intRow ts[i].proc], rfl, ?_⟩
        have fr2 := Frame.add (H := H) ⟨1, [intRow ts[i].proc]⟩ (fun _ => False)
        have hlen : (dues (ts.take i) now).length ≤ 8 := by unfold dues; rw [List.length_map]; exact Nat.le_trans (List.length_filter_le _ _) (by rw [List.length_take]; omega)
        refine (Run.app (items := [intRow ts[i].proc]) (by rw [fr2.floor, hf]; exact Nat.zero_le _) (ha.frame fr2 fun _ _ h => h) (by simp [itemsV, Heap.add_next, Heap.add_blk]) (by simp only [List.length_map, List.length_cons, List.length_nil]; unfold room; omega)).mono fun x' H3 ⟨o3, f3, l3⟩ => ?_
        (repeat' (first | (simp only [wp, extractV, exists_eq_left', if_true, if_false, ite_true, ite_false, reduceIte, Nat.reduceAdd, Nat.reduceLT, Nat.reduceLeDiff, Nat.reduceEqDiff, addN hlt hl]) | (with_reducible refine Run.gC ?_ ?_ <;> intro hb <;> try simp only [hb]) | (with_reducible refine Run.gG ?_ ?_ <;> intro hb <;> try simp only [hb]) | (with_reducible refine Run.gQ ?_ ?_ <;> intro hb <;> try simp only [hb])))
        refine ⟨hlt, _, _, rfl, by rw [f3.floor, fr2.floor, hf], by rw [hd, List.map_append]; exact o3, by rw [hle]; exact (hb2.frame fr2 fun _ _ h => h).frame f3 fun k hk hk' => hab k hk' hk, fun k hk hk' => ?_⟩
        rcases l3 k hk with h | h
        · exact hab k h hk'
        · have := hb2.lt hk'; have := fr2.next; omega
      · have hdue : now < ts[i].due := by have := of_decide_eq_false hb; omega
        have hd : dues (ts.take (i + 1)) now = dues (ts.take i) now := by unfold dues; rw [take_snoc hlt, List.filter_append, List.filter_cons_of_neg (by simp; omega), List.filter_nil, List.append_nil]
        have hle : left (ts.take (i + 1)) now = left (ts.take i) now ++ [ts[i]] := by unfold left; rw [take_snoc hlt, List.filter_append, List.filter_cons_of_pos (by simpa using hdue)]; rfl
        refine (Run.slice (n := 0)).2 ⟨[tmRow ts[i]], rfl, ?_⟩
        have fr2 := Frame.add (H := H) ⟨2, [tmRow ts[i]]⟩ (fun _ => False)
        have hlen : (left (ts.take i) now).length ≤ 8 := by unfold left; exact Nat.le_trans (List.length_filter_le _ _) (by rw [List.length_take]; omega)
        refine (Run.app (items := [tmRow ts[i]]) (by rw [fr2.floor, hf]; exact Nat.zero_le _) (hb2.frame fr2 fun _ _ h => h) (by simp [itemsV, Heap.add_next, Heap.add_blk]) (by simp only [List.length_map, List.length_cons, List.length_nil]; unfold room; omega)).mono fun x' H3 ⟨o3, f3, l3⟩ => ?_
        (repeat' (first | (simp only [wp, extractV, exists_eq_left', if_true, if_false, ite_true, ite_false, reduceIte, Nat.reduceAdd, Nat.reduceLT, Nat.reduceLeDiff, Nat.reduceEqDiff, addN hlt hl]) | (with_reducible refine Run.gC ?_ ?_ <;> intro hb <;> try simp only [hb]) | (with_reducible refine Run.gG ?_ ?_ <;> intro hb <;> try simp only [hb]) | (with_reducible refine Run.gQ ?_ ?_ <;> intro hb <;> try simp only [hb])))
        refine ⟨hlt, _, _, rfl, by rw [f3.floor, fr2.floor, hf], by rw [hd]; exact (ha.frame fr2 fun _ _ h => h).frame f3 fun k hk hk' => hab k hk hk', by rw [hle, List.map_append]; exact o3, fun k hk hk' => ?_⟩
        rcases l3 k hk' with h | h
        · exact hab k hk h
        · have := ha.lt hk; have := fr2.next; omega
    · simp only [ferry_ferryref08_Fire_l1]
      rw [take_all (by omega)] at ha hb2
      (repeat' (first | (simp only [wp, extractV, exists_eq_left', if_true, if_false, ite_true, ite_false, reduceIte, Nat.reduceAdd, Nat.reduceLT, Nat.reduceLeDiff, Nat.reduceEqDiff, hx.len, List.length_map, ltF hlt]) | (with_reducible refine Run.gC ?_ ?_ <;> intro hb <;> try simp only [hb]) | (with_reducible refine Run.gG ?_ ?_ <;> intro hb <;> try simp only [hb]) | (with_reducible refine Run.gQ ?_ ?_ <;> intro hb <;> try simp only [hb])))
      obtain ⟨w, _, hw, hs⟩ := ha.thawV (flat_ir _) true
      obtain ⟨w2, _, hw2, hs2⟩ := hb2.thawV (flat_tm _) true
      exact ⟨_, thawV_tup (mapM3 hw hw2 (thaw2_int _ _ _ _)), w, w2, rfl, hs, hs2⟩
  · have hc : okC ts = 9 := by unfold okC; rw [if_neg hok]
    refine ⟨.nils, .nils, callV_pure0 rfl (by simp [hx.closedV, cI]) rfl ?_, by rw [fireF, if_neg hok]; exact Sls.nils _, by rw [fireL, if_neg hok]; exact Sls.nils _⟩
    rw [ferry_ferryref08_Fire_eq]
    simp only [ferry_ferryref08_Fire, dv_zero]
    (repeat' (first | (simp only [wp, extractV, exists_eq_left', if_true, if_false, ite_true, ite_false, reduceIte, Nat.reduceAdd, Nat.reduceLT, Nat.reduceLeDiff, Nat.reduceEqDiff, e1, dv_len, hd8, len_zero, decide_eq_false hok, hc]) | (with_reducible refine Run.gC ?_ ?_ <;> intro hb <;> try simp only [hb]) | (with_reducible refine Run.gG ?_ ?_ <;> intro hb <;> try simp only [hb]) | (with_reducible refine Run.gQ ?_ ?_ <;> intro hb <;> try simp only [hb])))
end Go.Fv.Tr
