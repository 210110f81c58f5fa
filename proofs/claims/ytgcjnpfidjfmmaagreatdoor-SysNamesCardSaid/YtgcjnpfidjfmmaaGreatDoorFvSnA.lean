/-
  The calls' words, numbers and registers: the program's table and the document's. By an AI agent; no person has read it.
-/
import Derived.Test.YtgcjnpfidjfmmaaGreatDoorFvTr18
import Derived.Test.YtgcjnpfidjfmmaaGreatDoorFvStr
set_option linter.unusedVariables false
set_option linter.unusedSimpArgs false
set_option linter.unusedSectionVars false
/-! The calls' words, numbers and registers: the program's table and the document's. -/
namespace Go.Fv.Tr
open Go Go.Fv Go.Proofs
set_option linter.unusedSimpArgs false
set_option linter.unusedVariables false
variable {G : Nat → Option (List V)}

def nameL : List (List UInt8) := [[121, 105, 101, 108, 100], [115, 116, 111, 112], [115, 116, 97, 114, 116], [115, 108, 101, 101, 112], [112, 114, 105, 111], [116, 105, 109, 101], [114, 97, 105, 115, 101], [115, 101, 116], [99, 108, 101, 97, 114], [97, 119, 97, 105, 116], [115, 105, 103, 110, 97, 108], [116, 97, 107, 101], [114, 101, 97, 100], [119, 114, 105, 116, 101], [112, 111, 114, 116]]
def argL : List Int := [0, 0, 1, 1, 2, 0, 1, 1, 1, 2, 1, 2, 2, 3, 2]
def nmAt (k : Nat) : List UInt8 := nameL.getD k []
def agAt (k : Nat) : Int := argL.getD k 0
def tabRows : List (List V) := (List.range 15).map fun k => [.str (bs (nmAt k)), .int .i64 (agAt k), .fn (12 + k) []]
theorem tab_len : tabRows.length = 15 := rfl
theorem tab_at {k : Nat} (h : k < 15) : tabRows[k]? = some [.str (bs (nmAt k)), .int .i64 (agAt k), .fn (12 + k) []] := by
  unfold tabRows
  rw [List.getElem?_map, List.getElem?_range h]
  rfl

set_option maxRecDepth 20000 in
theorem table_run (n : Nat) {H : Heap} {Q : V → Heap → Prop} : Run (callV (cfg G) (sem (cfg G) (n + 1)) 10 []) H Q ↔ Q (.ref H.next 3 0 15 15 true) (H.add ⟨3, tabRows⟩) := by
  refine Run.eq ?_
  rw [callV_inl rfl, ferry_sys_table_eq]
  rfl
theorem idx15 {l : Nat} {m : Int} (h0 : 0 ≤ m) (h : m < 15) : idxV 3 (.ref l 3 0 15 15 true) (.int .i64 m) = some (.ptr l m.toNat 0) := by
  simp [idxV, h0, h]
theorem len15 {l : Nat} : lenV (.ref l 3 0 15 15 true) = some (.int .i64 15) := rfl

def nameOf (m : Int) : List UInt8 := if 0 ≤ m ∧ m < 15 then nmAt m.toNat else []
def argOf (m : Int) : Int := if 0 ≤ m ∧ m < 15 then agAt m.toNat else 0
def firstAt : List (List UInt8) → List UInt8 → Int → Int
  | [], _, _ => -1
  | a :: l, w, k => if a = w then k else firstAt l w (k + 1)
def numOf (w : List UInt8) : Int := firstAt nameL w 0

theorem name_spec (n : Nat) (m : Int) : callV (cfg G) (sem (cfg G) (n + 2)) 4 [.int .i64 m] = M.ret (.str (bs (nameOf m))) := by
  refine callV_pure0 rfl rfl rfl ?_
  rw [ferry_sys_Name_eq]
  simp only [ferry_sys_Name]
  have e0 : (⟨#[]⟩ : ByteArray) = bs [] := rfl
  by_cases h0 : 0 ≤ m
  · by_cases h1 : m < 15
    · (repeat' (first | (simp only [wp, extractV, exists_eq_left', if_true, if_false, ite_true, ite_false, reduceIte, Nat.reduceAdd, Nat.reduceLT, Nat.reduceLeDiff, Nat.reduceEqDiff, table_run, len15, decide_eq_true h0, decide_eq_true h1, idx15 h0 h1, tab_at (show m.toNat < 15 by omega)]) | (with_reducible refine Run.gC ?_ ?_ <;> intro hb <;> try simp only [hb]) | (with_reducible refine Run.gG ?_ ?_ <;> intro hb <;> try simp only [hb]) | (with_reducible refine Run.gQ ?_ ?_ <;> intro hb <;> try simp only [hb])))
      rw [nameOf, if_pos ⟨h0, h1⟩]
    · (repeat' (first | (simp only [wp, extractV, exists_eq_left', if_true, if_false, ite_true, ite_false, reduceIte, Nat.reduceAdd, Nat.reduceLT, Nat.reduceLeDiff, Nat.reduceEqDiff, table_run, len15, decide_eq_true h0, decide_eq_false h1, e0]) | (with_reducible refine Run.gC ?_ ?_ <;> intro hb <;> try simp only [hb]) | (with_reducible refine Run.gG ?_ ?_ <;> intro hb <;> try simp only [hb]) | (with_reducible refine Run.gQ ?_ ?_ <;> intro hb <;> try simp only [hb])))
      rw [nameOf, if_neg (by omega)]
  · (repeat' (first | (simp only [wp, extractV, exists_eq_left', if_true, if_false, ite_true, ite_false, reduceIte, Nat.reduceAdd, Nat.reduceLT, Nat.reduceLeDiff, Nat.reduceEqDiff, table_run, len15, decide_eq_false h0, e0]) | (with_reducible refine Run.gC ?_ ?_ <;> intro hb <;> try simp only [hb]) | (with_reducible refine Run.gG ?_ ?_ <;> intro hb <;> try simp only [hb]) | (with_reducible refine Run.gQ ?_ ?_ <;> intro hb <;> try simp only [hb])))
    rw [nameOf, if_neg (by omega)]
theorem args_spec (n : Nat) (m : Int) : callV (cfg G) (sem (cfg G) (n + 2)) 6 [.int .i64 m] = M.ret (.int .i64 (argOf m)) := by
  refine callV_pure0 rfl rfl rfl ?_
  rw [ferry_sys_Args_eq]
  simp only [ferry_sys_Args]
  by_cases h0 : 0 ≤ m
  · by_cases h1 : m < 15
    · (repeat' (first | (simp only [wp, extractV, exists_eq_left', if_true, if_false, ite_true, ite_false, reduceIte, Nat.reduceAdd, Nat.reduceLT, Nat.reduceLeDiff, Nat.reduceEqDiff, table_run, len15, decide_eq_true h0, decide_eq_true h1, idx15 h0 h1, tab_at (show m.toNat < 15 by omega)]) | (with_reducible refine Run.gC ?_ ?_ <;> intro hb <;> try simp only [hb]) | (with_reducible refine Run.gG ?_ ?_ <;> intro hb <;> try simp only [hb]) | (with_reducible refine Run.gQ ?_ ?_ <;> intro hb <;> try simp only [hb])))
      rw [argOf, if_pos ⟨h0, h1⟩]
    · (repeat' (first | (simp only [wp, extractV, exists_eq_left', if_true, if_false, ite_true, ite_false, reduceIte, Nat.reduceAdd, Nat.reduceLT, Nat.reduceLeDiff, Nat.reduceEqDiff, table_run, len15, decide_eq_true h0, decide_eq_false h1]) | (with_reducible refine Run.gC ?_ ?_ <;> intro hb <;> try simp only [hb]) | (with_reducible refine Run.gG ?_ ?_ <;> intro hb <;> try simp only [hb]) | (with_reducible refine Run.gQ ?_ ?_ <;> intro hb <;> try simp only [hb])))
      rw [argOf, if_neg (by omega)]
  · (repeat' (first | (simp only [wp, extractV, exists_eq_left', if_true, if_false, ite_true, ite_false, reduceIte, Nat.reduceAdd, Nat.reduceLT, Nat.reduceLeDiff, Nat.reduceEqDiff, table_run, len15, decide_eq_false h0]) | (with_reducible refine Run.gC ?_ ?_ <;> intro hb <;> try simp only [hb]) | (with_reducible refine Run.gG ?_ ?_ <;> intro hb <;> try simp only [hb]) | (with_reducible refine Run.gQ ?_ ?_ <;> intro hb <;> try simp only [hb])))
    rw [argOf, if_neg (by omega)]

theorem drop_at {k : Nat} (h : k < 15) : nameL.drop k = nmAt k :: nameL.drop (k + 1) := by
  have : k < nameL.length := h
  rw [List.drop_eq_getElem_cons this, nmAt, List.getD_eq_getElem?_getD, List.getElem?_eq_getElem this]
  rfl
theorem lt15T {k : Nat} (h : k < 15) : decide ((k : Int) < 15) = true := decide_eq_true (by omega)
theorem lt15F {k : Nat} (h : ¬ k < 15) : decide ((k : Int) < 15) = false := decide_eq_false (by omega)
theorem number_spec (n : Nat) (w : List UInt8) : callV (cfg G) (sem (cfg G) (n + 2)) 5 [.str (bs w)] = M.ret (.int .i64 (numOf w)) := by
  refine callV_pure0 rfl rfl rfl ?_
  rw [ferry_sys_Number_eq]
  simp only [ferry_sys_Number]
  (repeat' (first | (simp only [wp, extractV, exists_eq_left', if_true, if_false, ite_true, ite_false, reduceIte, Nat.reduceAdd, Nat.reduceLT, Nat.reduceLeDiff, Nat.reduceEqDiff, table_run, len15]) | (with_reducible refine Run.gC ?_ ?_ <;> intro hb <;> try simp only [hb]) | (with_reducible refine Run.gG ?_ ?_ <;> intro hb <;> try simp only [hb]) | (with_reducible refine Run.gQ ?_ ?_ <;> intro hb <;> try simp only [hb])))
  refine Run.loop (N := 15) (fun k s H => s = [.int .i64 0, .int .i64 (k : Nat)] ∧ H.floor = 0 ∧ 0 < H.next ∧ H.blk 0 = some ⟨3, tabRows⟩ ∧ firstAt (nameL.drop k) w (k : Int) = numOf w)
    ⟨rfl, rfl, by decide, rfl, rfl⟩ ?_
  rintro k s H hk ⟨rfl, hf, hn, htb, hw⟩
  simp only [ferry_sys_Number_l1]
  by_cases hlt : k < 15
  · rw [drop_at hlt, firstAt] at hw
    have h0n : ¬ (0 = H.next) := by omega
    (repeat' (first | (simp only [wp, extractV, exists_eq_left', if_true, if_false, ite_true, ite_false, reduceIte, Nat.reduceAdd, Nat.reduceLT, Nat.reduceLeDiff, Nat.reduceEqDiff, lt15T hlt, idx15 (m := (k : Int)) (by omega) (by omega), Int.toNat_natCast, htb, tab_at hlt, hf, bs_eqb, nadd hlt (show 15 ≤ 9223372036854775807 by decide)]) | (with_reducible refine Run.gC ?_ ?_ <;> intro hb <;> try simp only [hb]) | (with_reducible refine Run.gG ?_ ?_ <;> intro hb <;> try simp only [hb]) | (with_reducible refine Run.gQ ?_ ?_ <;> intro hb <;> try simp only [hb])))
    · have hb := eq_of_beq hb
      rw [if_pos hb] at hw
      rw [hw]
    · rw [if_neg (by simpa using hb)] at hw
      exact ⟨hlt, by rw [if_neg h0n, if_neg h0n], hw⟩
  · have hk15 : k = 15 := by omega
    subst hk15
    (repeat' (first | (simp only [wp, extractV, exists_eq_left', if_true, if_false, ite_true, ite_false, reduceIte, Nat.reduceAdd, Nat.reduceLT, Nat.reduceLeDiff, Nat.reduceEqDiff, lt15F hlt]) | (with_reducible refine Run.gC ?_ ?_ <;> intro hb <;> try simp only [hb]) | (with_reducible refine Run.gG ?_ ?_ <;> intro hb <;> try simp only [hb]) | (with_reducible refine Run.gQ ?_ ?_ <;> intro hb <;> try simp only [hb])))
    have : firstAt (nameL.drop 15) w ((15 : Nat) : Int) = -1 := rfl
    rw [← hw, this]

theorem words_spec (n : Nat) : callV (cfg G) (sem (cfg G) (n + 1)) 11 [] = M.ret (.imm 1 (nameL.map fun w => [V.str (bs w)])) := by
  refine callV_pure rfl rfl ?_
  rw [ferry_ferryref12_words_eq]
  simp only [ferry_ferryref12_words]
  (repeat' (first | (simp only [wp, extractV, exists_eq_left', if_true, if_false, ite_true, ite_false, reduceIte, Nat.reduceAdd, Nat.reduceLT, Nat.reduceLeDiff, Nat.reduceEqDiff]) | (with_reducible refine Run.gC ?_ ?_ <;> intro hb <;> try simp only [hb]) | (with_reducible refine Run.gG ?_ ?_ <;> intro hb <;> try simp only [hb]) | (with_reducible refine Run.gQ ?_ ?_ <;> intro hb <;> try simp only [hb])))
  refine Run.slice.2 ⟨nameL.map fun w => [V.str (bs w)], rfl, ?_⟩
  (repeat' (first | (simp only [wp, extractV, exists_eq_left', if_true, if_false, ite_true, ite_false, reduceIte, Nat.reduceAdd, Nat.reduceLT, Nat.reduceLeDiff, Nat.reduceEqDiff]) | (with_reducible refine Run.gC ?_ ?_ <;> intro hb <;> try simp only [hb]) | (with_reducible refine Run.gG ?_ ?_ <;> intro hb <;> try simp only [hb]) | (with_reducible refine Run.gQ ?_ ?_ <;> intro hb <;> try simp only [hb])))
  rfl
def wdL : List (List V) := nameL.map fun w => [V.str (bs w)]
theorem wd_len : lenV (.imm 1 wdL) = some (.int .i64 15) := rfl
theorem wd_get {k : Nat} (h : k < wdL.length) : wdL[k] = [V.str (bs (nmAt k))] := by
  have h15 : k < nameL.length := h
  have h1 : wdL[k]? = some [V.str (bs (nmAt k))] := by
    unfold wdL
    rw [List.getElem?_map, nmAt, List.getD_eq_getElem?_getD, List.getElem?_eq_getElem h15]
    rfl
  rw [List.getElem?_eq_getElem h] at h1
  exact Option.some.inj h1
theorem wd_idx {m : Int} (h0 : 0 ≤ m) (h : m < 15) : idxV 1 (.imm 1 wdL) (.int .i64 m) = some (.iptr [V.str (bs (nmAt m.toNat))] 0) := by
  have hl : m < (wdL.length : Int) := h
  rw [(Sls.imm 1 wdL).idxI (k := .i64) h0 hl, wd_get]
theorem refName_spec (n : Nat) (m : Int) : callV (cfg G) (sem (cfg G) (n + 2)) 7 [.int .i64 m] = M.ret (.str (bs (nameOf m))) := by
  refine callV_pure0 rfl rfl rfl ?_
  rw [ferry_ferryref12_Name_eq]
  simp only [ferry_ferryref12_Name]
  have e0 : (⟨#[]⟩ : ByteArray) = bs [] := rfl
  have ew := words_spec (G := G) n
  rw [← wdL] at ew
  by_cases h0 : m < 0
  · (repeat' (first | (simp only [wp, extractV, exists_eq_left', if_true, if_false, ite_true, ite_false, reduceIte, Nat.reduceAdd, Nat.reduceLT, Nat.reduceLeDiff, Nat.reduceEqDiff, ew, wd_len, decide_eq_true h0, e0]) | (with_reducible refine Run.gC ?_ ?_ <;> intro hb <;> try simp only [hb]) | (with_reducible refine Run.gG ?_ ?_ <;> intro hb <;> try simp only [hb]) | (with_reducible refine Run.gQ ?_ ?_ <;> intro hb <;> try simp only [hb])))
    rw [nameOf, if_neg (by omega)]
  · by_cases h1 : 15 ≤ m
    · (repeat' (first | (simp only [wp, extractV, exists_eq_left', if_true, if_false, ite_true, ite_false, reduceIte, Nat.reduceAdd, Nat.reduceLT, Nat.reduceLeDiff, Nat.reduceEqDiff, ew, wd_len, decide_eq_false h0, decide_eq_true h1, e0]) | (with_reducible refine Run.gC ?_ ?_ <;> intro hb <;> try simp only [hb]) | (with_reducible refine Run.gG ?_ ?_ <;> intro hb <;> try simp only [hb]) | (with_reducible refine Run.gQ ?_ ?_ <;> intro hb <;> try simp only [hb])))
      rw [nameOf, if_neg (by omega)]
    · (repeat' (first | (simp only [wp, extractV, exists_eq_left', if_true, if_false, ite_true, ite_false, reduceIte, Nat.reduceAdd, Nat.reduceLT, Nat.reduceLeDiff, Nat.reduceEqDiff, ew, wd_len, decide_eq_false h0, decide_eq_false h1, wd_idx (m := m) (by omega) (by omega)]) | (with_reducible refine Run.gC ?_ ?_ <;> intro hb <;> try simp only [hb]) | (with_reducible refine Run.gG ?_ ?_ <;> intro hb <;> try simp only [hb]) | (with_reducible refine Run.gQ ?_ ?_ <;> intro hb <;> try simp only [hb])))
      rw [nameOf, if_pos (by omega)]
theorem refNumber_spec (n : Nat) (w : List UInt8) : callV (cfg G) (sem (cfg G) (n + 2)) 9 [.str (bs w)] = M.ret (.int .i64 (numOf w)) := by
  refine callV_pure0 rfl rfl rfl ?_
  rw [ferry_ferryref12_Number_eq]
  simp only [ferry_ferryref12_Number]
  have ew := words_spec (G := G) n
  rw [← wdL] at ew
  (repeat' (first | (simp only [wp, extractV, exists_eq_left', if_true, if_false, ite_true, ite_false, reduceIte, Nat.reduceAdd, Nat.reduceLT, Nat.reduceLeDiff, Nat.reduceEqDiff, ew]) | (with_reducible refine Run.gC ?_ ?_ <;> intro hb <;> try simp only [hb]) | (with_reducible refine Run.gG ?_ ?_ <;> intro hb <;> try simp only [hb]) | (with_reducible refine Run.gQ ?_ ?_ <;> intro hb <;> try simp only [hb])))
  refine Run.loop (N := 15) (fun k s H => s = [.int .i64 0, .int .i64 (k : Nat)] ∧ firstAt (nameL.drop k) w (k : Int) = numOf w) ⟨rfl, rfl⟩ ?_
  rintro k s H hk ⟨rfl, hw⟩
  simp only [ferry_ferryref12_Number_l1]
  by_cases hlt : k < 15
  · rw [drop_at hlt, firstAt] at hw
    (repeat' (first | (simp only [wp, extractV, exists_eq_left', if_true, if_false, ite_true, ite_false, reduceIte, Nat.reduceAdd, Nat.reduceLT, Nat.reduceLeDiff, Nat.reduceEqDiff, wd_len, lt15T hlt, wd_idx (m := (k : Int)) (by omega) (by omega), Int.toNat_natCast, bs_eqb, nadd hlt (show 15 ≤ 9223372036854775807 by decide)]) | (with_reducible refine Run.gC ?_ ?_ <;> intro hb <;> try simp only [hb]) | (with_reducible refine Run.gG ?_ ?_ <;> intro hb <;> try simp only [hb]) | (with_reducible refine Run.gQ ?_ ?_ <;> intro hb <;> try simp only [hb])))
    · have hb := eq_of_beq hb
      rw [if_pos hb] at hw
      rw [hw]
    · rw [if_neg (by simpa using hb)] at hw
      exact ⟨hlt, hw⟩
  · have hk15 : k = 15 := by omega
    subst hk15
    (repeat' (first | (simp only [wp, extractV, exists_eq_left', if_true, if_false, ite_true, ite_false, reduceIte, Nat.reduceAdd, Nat.reduceLT, Nat.reduceLeDiff, Nat.reduceEqDiff, wd_len, lt15F hlt]) | (with_reducible refine Run.gC ?_ ?_ <;> intro hb <;> try simp only [hb]) | (with_reducible refine Run.gG ?_ ?_ <;> intro hb <;> try simp only [hb]) | (with_reducible refine Run.gQ ?_ ?_ <;> intro hb <;> try simp only [hb])))
    have : firstAt (nameL.drop 15) w ((15 : Nat) : Int) = -1 := rfl
    rw [← hw, this]

theorem mem15 {m : Int} (h0 : 0 ≤ m) (h : m < 15) : m = 0 ∨ m = 1 ∨ m = 2 ∨ m = 3 ∨ m = 4 ∨ m = 5 ∨ m = 6 ∨ m = 7 ∨ m = 8 ∨ m = 9 ∨ m = 10 ∨ m = 11 ∨ m = 12 ∨ m = 13 ∨ m = 14 := by omega
theorem ne15 {m k : Int} (h : m < 0 ∨ 15 ≤ m) (h0 : 0 ≤ k) (h1 : k < 15) : (m == k) = false := beq_eq_false_iff_ne.2 (by omega)
theorem refArgs_spec (n : Nat) (m : Int) : callV (cfg G) (sem (cfg G) (n + 1)) 8 [.int .i64 m] = M.ret (.int .i64 (argOf m)) := by
  refine callV_pure0 rfl rfl rfl ?_
  rw [ferry_ferryref12_Args_eq]
  by_cases h : 0 ≤ m ∧ m < 15
  · rcases mem15 h.1 h.2 with rfl | rfl | rfl | rfl | rfl | rfl | rfl | rfl | rfl | rfl | rfl | rfl | rfl | rfl | rfl <;> exact Run.of rfl rfl
  · have hm : m < 0 ∨ 15 ≤ m := by omega
    simp only [ferry_ferryref12_Args, ferry_ferryref12_Args_j2, ferry_ferryref12_Args_j1]
    (repeat' (first | (simp only [wp, extractV, exists_eq_left', if_true, if_false, ite_true, ite_false, reduceIte, Nat.reduceAdd, Nat.reduceLT, Nat.reduceLeDiff, Nat.reduceEqDiff, ne15 hm (k := 2) (by decide) (by decide), ne15 hm (k := 3) (by decide) (by decide), ne15 hm (k := 6) (by decide) (by decide), ne15 hm (k := 7) (by decide) (by decide), ne15 hm (k := 8) (by decide) (by decide), ne15 hm (k := 10) (by decide) (by decide), ne15 hm (k := 4) (by decide) (by decide), ne15 hm (k := 9) (by decide) (by decide), ne15 hm (k := 11) (by decide) (by decide), ne15 hm (k := 12) (by decide) (by decide), ne15 hm (k := 14) (by decide) (by decide), ne15 hm (k := 13) (by decide) (by decide)]) | (with_reducible refine Run.gC ?_ ?_ <;> intro hb <;> try simp only [hb]) | (with_reducible refine Run.gG ?_ ?_ <;> intro hb <;> try simp only [hb]) | (with_reducible refine Run.gQ ?_ ?_ <;> intro hb <;> try simp only [hb])))
    rw [argOf, if_neg h]

theorem there : ∀ k, k < 15 → numOf (nameOf (k : Nat)) = (k : Int) := by decide +kernel
theorem fix1 : nameOf 14 = [112, 111, 114, 116] := by decide +kernel
theorem fix2 : numOf [121, 105, 101, 108, 100] = 0 := by decide +kernel
theorem fix3 : argOf 13 = 3 := by decide +kernel
theorem names_run (n : Nat) (m : Int) (w : List UInt8) : Run (sem (cfg G) (n + 3) 3 [.int .i64 m, .str (bs w)]) Heap.empty fun v _ => v = .bool true := by
  rw [ferry_ferrylaw12_SysNames_eq]
  simp only [ferry_ferrylaw12_SysNames]
  have e1 := name_spec (G := G) n 14
  have e2 := number_spec (G := G) n [121, 105, 101, 108, 100]
  have e3 := args_spec (G := G) n 13
  rw [fix1] at e1
  rw [fix2] at e2
  rw [fix3] at e3
  have c1 : (⟨#[112, 111, 114, 116]⟩ : ByteArray) = bs [112, 111, 114, 116] := rfl
  have c2 : (⟨#[121, 105, 101, 108, 100]⟩ : ByteArray) = bs [121, 105, 101, 108, 100] := rfl
  (repeat' (first | (simp only [wp, extractV, exists_eq_left', if_true, if_false, ite_true, ite_false, reduceIte, Nat.reduceAdd, Nat.reduceLT, Nat.reduceLeDiff, Nat.reduceEqDiff, e1, c1, bs_eqb, beq_self_eq_true, c2, e2, e3]) | (with_reducible refine Run.gC ?_ ?_ <;> intro hb <;> try simp only [hb]) | (with_reducible refine Run.gG ?_ ?_ <;> intro hb <;> try simp only [hb]) | (with_reducible refine Run.gQ ?_ ?_ <;> intro hb <;> try simp only [hb])))
  refine Run.loop (N := 15) (fun k s H => s = [.bool false, .int .i64 (k : Nat)]) rfl ?_
  rintro k s H hk rfl
  simp only [ferry_ferrylaw12_SysNames_l1]
  by_cases hlt : k < 15
  · (repeat' (first | (simp only [wp, extractV, exists_eq_left', if_true, if_false, ite_true, ite_false, reduceIte, Nat.reduceAdd, Nat.reduceLT, Nat.reduceLeDiff, Nat.reduceEqDiff, lt15T hlt, name_spec n, number_spec n, there k hlt, beq_self_eq_true, refName_spec n, bs_eqb, args_spec n, refArgs_spec (n + 1), nadd hlt (show 15 ≤ 9223372036854775807 by decide)]) | (with_reducible refine Run.gC ?_ ?_ <;> intro hb <;> try simp only [hb]) | (with_reducible refine Run.gG ?_ ?_ <;> intro hb <;> try simp only [hb]) | (with_reducible refine Run.gQ ?_ ?_ <;> intro hb <;> try simp only [hb])))
    exact hlt
  · (repeat' (first | (simp only [wp, extractV, exists_eq_left', if_true, if_false, ite_true, ite_false, reduceIte, Nat.reduceAdd, Nat.reduceLT, Nat.reduceLeDiff, Nat.reduceEqDiff, lt15F hlt, name_spec n, refName_spec n, bs_eqb, beq_self_eq_true, number_spec n, refNumber_spec n, args_spec n, refArgs_spec (n + 1)]) | (with_reducible refine Run.gC ?_ ?_ <;> intro hb <;> try simp only [hb]) | (with_reducible refine Run.gG ?_ ?_ <;> intro hb <;> try simp only [hb]) | (with_reducible refine Run.gQ ?_ ?_ <;> intro hb <;> try simp only [hb])))
end Go.Fv.Tr
