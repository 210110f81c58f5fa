/-
  What the words of errors' numbers are: Number, nth, Word, listed, Itoa. By an AI agent; no person has read it.
-/
import Derived.Test.YtoogammidjhfgaaDoorFvTr17
import Derived.Test.YtoogammidjhfgaaDoorFvStr
set_option linter.unusedVariables false
set_option linter.unusedSimpArgs false
set_option linter.unusedSectionVars false
/-! What the words of errors' numbers are: Number, nth, Word, listed, Itoa. -/
namespace Go.Fv.Tr
open Go Go.Fv Go.Proofs
set_option linter.unusedSimpArgs false
set_option linter.unusedVariables false
variable {G : Nat → Option (List V)}

def inR (m : Int) : Prop := -9223372036854775808 ≤ m ∧ m ≤ 9223372036854775807
theorem wf_inR {m : Int} (h : (Lit.int .i64 m).wf = true) : inR m := by
  have h1 : IntKind.i64.min = -9223372036854775808 := by decide
  have h2 : IntKind.i64.max = 9223372036854775807 := by decide
  simp [Lit.wf] at h
  unfold inR
  omega
theorem itoaB_bs (m : Int) : itoaB m = bs (Go.Lib.itoa m) := rfl

theorem itoa_spec (hG : tabOf G = true) (n : Nat) {m : Int} (hm : inR m) : callV (cfg G) (sem (cfg G) (n + 1)) 127 [.int .i64 m] = M.ret (.str (itoaB m)) := by
  refine callV_pure0 rfl rfl rfl ?_
  rw [strconv_Itoa_eq]
  simp only [strconv_Itoa]
  have e : callV (cfg G) (sem (cfg G) n) 173 [.int .i64 m] = M.ret (.str (itoaB m)) := by
    funext H
    have hx : extX G 173 [.int .i64 m] = some (.str (itoaB m)) := by
      show itoaX G [.int .i64 m] = _
      exact if_pos ⟨hG, hm⟩
    show callP false (fun ys => M.lift (extX G 173 ys)) [.int .i64 m] H = _
    simp only [callP]
    rw [mapM_closedV rfl H]
    simp only [Option.bind_some, M.lift, hx]
    rfl
  (repeat' (first | (simp only [wp, extractV, exists_eq_left', if_true, if_false, ite_true, ite_false, reduceIte, Nat.reduceAdd, Nat.reduceLT, Nat.reduceLeDiff, Nat.reduceEqDiff, e]) | (with_reducible refine Run.gC ?_ ?_ <;> intro hb <;> try simp only [hb]) | (with_reducible refine Run.gG ?_ ?_ <;> intro hb <;> try simp only [hb]) | (with_reducible refine Run.gQ ?_ ?_ <;> intro hb <;> try simp only [hb])))

theorem number_spec (n : Nat) {m : Int} (hm : inR m) : callV (cfg G) (sem (cfg G) (n + 1)) 74 [.int .i64 m] = M.ret (.str (itoaB m)) := by
  obtain ⟨hm1, hm2⟩ := hm
  refine callV_pure0 rfl rfl rfl ?_
  rw [ferry_ferryref25_Number_eq]
  simp only [ferry_ferryref25_Number]
  (repeat' (first | (simp only [wp, extractV, exists_eq_left', if_true, if_false, ite_true, ite_false, reduceIte, Nat.reduceAdd, Nat.reduceLT, Nat.reduceLeDiff, Nat.reduceEqDiff]) | (with_reducible refine Run.gC ?_ ?_ <;> intro hb <;> try simp only [hb]) | (with_reducible refine Run.gG ?_ ?_ <;> intro hb <;> try simp only [hb]) | (with_reducible refine Run.gQ ?_ ?_ <;> intro hb <;> try simp only [hb])))
  · have hb := eq_of_beq hb
    subst hb
    have e : Go.Lib.itoa 0 = [48] := by
      unfold Go.Lib.itoa
      rw [if_neg (by decide), Go.Lib.decDigits, dif_pos (by decide)]
      rfl
    rw [itoaB_bs, e]
    rfl
  have hm0 : m ≠ 0 := by simpa using hb
  refine Run.loop (N := m.natAbs) (fun i s H => ∃ l m', s = [.str (bs l), .int .i64 m'] ∧ i + m'.natAbs ≤ m.natAbs ∧ (m < 0 → m' ≤ 0) ∧ (0 ≤ m → 0 ≤ m') ∧ dgs m'.natAbs l = dgs m.natAbs [] ∧ l.length ≤ 20)
    ⟨[], m, rfl, by omega, by omega, by omega, rfl, by simp⟩ ?_
  rintro i s H hi ⟨l, m', rfl, hN, hneg, hpos, hd, hll⟩
  have hlen : (dgs m.natAbs []).length ≤ 20 := by
    unfold dgs
    rw [if_neg (by omega), List.append_nil]
    exact dec_len m.natAbs 19 (by have : (10 : Nat) ^ 20 = 100000000000000000000 := by decide
                                  omega)
  simp only [ferry_ferryref25_Number_l1, ferry_ferryref25_Number_j1]
  by_cases h0 : m' = 0
  · subst h0
    have hl : l = dgs m.natAbs [] := by rw [← hd]; rfl
    (repeat' (first | (simp only [wp, extractV, exists_eq_left', if_true, if_false, ite_true, ite_false, reduceIte, Nat.reduceAdd, Nat.reduceLT, Nat.reduceLeDiff, Nat.reduceEqDiff, beq_self_eq_true]) | (with_reducible refine Run.gC ?_ ?_ <;> intro hb <;> try simp only [hb]) | (with_reducible refine Run.gG ?_ ?_ <;> intro hb <;> try simp only [hb]) | (with_reducible refine Run.gQ ?_ ?_ <;> intro hb <;> try simp only [hb])))
    · have hlt := of_decide_eq_true hb
      have e := str_add (a := [45]) (b := l) (by simp; omega)
      have e1 : (⟨#[45]⟩ : ByteArray) = bs [45] := rfl
      rw [e1]
      (repeat' (first | (simp only [wp, extractV, exists_eq_left', if_true, if_false, ite_true, ite_false, reduceIte, Nat.reduceAdd, Nat.reduceLT, Nat.reduceLeDiff, Nat.reduceEqDiff, e]) | (with_reducible refine Run.gC ?_ ?_ <;> intro hb <;> try simp only [hb]) | (with_reducible refine Run.gG ?_ ?_ <;> intro hb <;> try simp only [hb]) | (with_reducible refine Run.gQ ?_ ?_ <;> intro hb <;> try simp only [hb])))
      rw [hl, itoaB_bs]
      unfold Go.Lib.itoa dgs
      rw [if_pos hlt, if_neg (by omega)]
      simp
    · have hlt := of_decide_eq_false hb
      rw [hl, itoaB_bs]
      unfold Go.Lib.itoa dgs
      rw [if_neg hlt, if_neg (by omega)]
      have : m.natAbs = m.toNat := by omega
      rw [this]
      simp
  · have e0 : (m' == 0) = false := by simpa using h0
    have hu : m'.natAbs ≠ 0 := by omega
    have hst := dgs_step hu l
    have hq : (m'.tdiv 10).natAbs = m'.natAbs / 10 := by rw [Int.natAbs_tdiv]; rfl
    have hr : (m'.tmod 10).natAbs = m'.natAbs % 10 := by rw [Int.natAbs_tmod]; rfl
    have hll' : (UInt8.ofNat (48 + m'.natAbs % 10) :: l).length ≤ 20 := by
      have : dgs (m'.natAbs / 10) (UInt8.ofNat (48 + m'.natAbs % 10) :: l) = dgs m.natAbs [] := by rw [← hst]; exact hd
      rw [← this] at hlen
      unfold dgs at hlen
      split at hlen
      · exact hlen
      · rw [List.length_append] at hlen; omega
    have hd9 : -9 ≤ m'.tmod 10 ∧ m'.tmod 10 ≤ 9 := by omega
    have hsg : (m' < 0 → m'.tmod 10 ≤ 0) ∧ (0 < m' → 0 ≤ m'.tmod 10) := ⟨fun h => by have := Int.tmod_nonneg 10 (show 0 ≤ -m' by omega); rw [Int.neg_tmod] at this; omega, fun h => Int.tmod_nonneg 10 (by omega)⟩
    have hqs : (m' < 0 → m'.tdiv 10 ≤ 0) ∧ (0 < m' → 0 ≤ m'.tdiv 10) := ⟨fun h => by have := Int.tdiv_nonneg (show 0 ≤ -m' by omega) (show (0 : Int) ≤ 10 by omega); rw [Int.neg_tdiv] at this; omega, fun h => Int.tdiv_nonneg (by omega) (by omega)⟩
    have hrem := arith_rem (a := m') (b := 10) (by decide)
    have hquo := arith_quo (a := m') (b := 10) (by decide) (by omega) (by omega)
    generalize m'.tmod 10 = d at hd9 hsg hr hrem
    have hc : ∀ x : Int, x = ((m'.natAbs % 10 : Nat) : Int) → UInt8.ofNat (48 + x).toNat = UInt8.ofNat (48 + m'.natAbs % 10) := fun x hx => by
      rw [hx]; rfl
    have a1 := str_add (a := [UInt8.ofNat (48 + d).toNat]) (b := l) (by simp; omega)
    have a2 := str_add (a := [UInt8.ofNat (48 + -d).toNat]) (b := l) (by simp; omega)
    (repeat' (first | (simp only [wp, extractV, exists_eq_left', if_true, if_false, ite_true, ite_false, reduceIte, Nat.reduceAdd, Nat.reduceLT, Nat.reduceLeDiff, Nat.reduceEqDiff, e0, hrem, hquo, un_neg (a := d) (by omega) (by omega), arith_add (a := 48) (b := d) (by omega) (by omega), arith_add (a := 48) (b := -d) (by omega) (by omega), conv_u8 (k := .i64) (a := 48 + d) (by omega) (by omega), conv_u8 (k := .i64) (a := 48 + -d) (by omega) (by omega), Run.sliceOne, Run.readOne, a1, a2]) | (with_reducible refine Run.gC ?_ ?_ <;> intro hb <;> try simp only [hb]) | (with_reducible refine Run.gG ?_ ?_ <;> intro hb <;> try simp only [hb]) | (with_reducible refine Run.gQ ?_ ?_ <;> intro hb <;> try simp only [hb])))
    · have hlt := of_decide_eq_true hb
      refine ⟨by omega, _, _, rfl, by omega, by omega, by omega, ?_, ?_⟩
      · rw [hc (-d) (by omega), hq]; exact hst.symm.trans hd
      · rw [hc (-d) (by omega)]; exact hll'
    · have hlt := of_decide_eq_false hb
      refine ⟨by omega, _, _, rfl, by omega, by omega, by omega, ?_, ?_⟩
      · rw [hc d (by omega), hq]; exact hst.symm.trans hd
      · rw [hc d (by omega)]; exact hll'

/-- The n-th word of a text, from the word 'at' on. -/
def nthL : List UInt8 → Int → Int → List UInt8
  | [], _, _ => []
  | c :: l, a, n => if c = 32 then nthL l (a + 1) n else if a = n then c :: nthL l a n else nthL l a n

theorem nth_spec (n : Nat) {l : List UInt8} (hl : l.length ≤ 1000000) (m : Int) : callV (cfg G) (sem (cfg G) (n + 1)) 131 [.str (bs l), .int .i64 m] = M.ret (.str (bs (nthL l 0 m))) := by
  refine callV_pure0 rfl rfl rfl ?_
  rw [ferry_ferryref27_nth_eq]
  simp only [ferry_ferryref27_nth]
  (repeat' (first | (simp only [wp, extractV, exists_eq_left', if_true, if_false, ite_true, ite_false, reduceIte, Nat.reduceAdd, Nat.reduceLT, Nat.reduceLeDiff, Nat.reduceEqDiff, Run.slice0]) | (with_reducible refine Run.gC ?_ ?_ <;> intro hb <;> try simp only [hb]) | (with_reducible refine Run.gG ?_ ?_ <;> intro hb <;> try simp only [hb]) | (with_reducible refine Run.gQ ?_ ?_ <;> intro hb <;> try simp only [hb])))
  refine Run.loop (N := l.length) (fun k s H => ∃ (a : Int) (x : V) (W : List UInt8), s = [.int .i64 a, x, .int .i64 (k : Nat)] ∧ Own H x 1 (byR W) ∧ H.floor ≤ H.next ∧ 0 ≤ a ∧ a ≤ k ∧ W.length ≤ k ∧ k ≤ l.length ∧ W ++ nthL (l.drop k) a m = nthL l 0 m)
    ⟨0, .emp, [], rfl, Own.emp _ _, Nat.le_refl _, by omega, by omega, by simp, by omega, rfl⟩ ?_
  rintro k s H hk ⟨a, x, W, rfl, ho, hf, ha0, hak, hW, hkl, hn⟩
  simp only [ferry_ferryref27_nth_l1, ferry_ferryref27_nth_j1]
  by_cases hlt : k < l.length
  · have hd : l.drop k = l[k] :: l.drop (k + 1) := List.drop_eq_getElem_cons hlt
    rw [hd, nthL] at hn
    have h256 : l[k].toNat < 256 := l[k].toNat_lt
    have e32 : (((l[k].toNat : Int)) == 32) = decide (l[k] = 32) := by
      by_cases e : l[k] = 32
      · rw [decide_eq_true e, e]; rfl
      · rw [decide_eq_false e]
        refine beq_eq_false_iff_ne.2 fun h => e ?_
        have h' : l[k].toNat = 32 := by omega
        exact UInt8.toNat_inj.1 h'
    (repeat' (first | (simp only [wp, extractV, exists_eq_left', if_true, if_false, ite_true, ite_false, reduceIte, Nat.reduceAdd, Nat.reduceLT, Nat.reduceLeDiff, Nat.reduceEqDiff, str_len, nltT hlt, str_idx hlt, e32, nadd hlt (show l.length ≤ 9223372036854775807 by omega), arith_add (a := a) (b := 1) (by omega) (by omega)]) | (with_reducible refine Run.gC ?_ ?_ <;> intro hb <;> try simp only [hb]) | (with_reducible refine Run.gG ?_ ?_ <;> intro hb <;> try simp only [hb]) | (with_reducible refine Run.gQ ?_ ?_ <;> intro hb <;> try simp only [hb])))
    · have hb := of_decide_eq_true hb
      rw [if_pos hb] at hn
      exact ⟨hlt, _, _, W, rfl, ho, hf, by omega, by omega, by omega, by omega, hn⟩
    · (repeat' (first | (simp only [wp, extractV, exists_eq_left', if_true, if_false, ite_true, ite_false, reduceIte, Nat.reduceAdd, Nat.reduceLT, Nat.reduceLeDiff, Nat.reduceEqDiff, Run.sliceOne]) | (with_reducible refine Run.gC ?_ ?_ <;> intro hb <;> try simp only [hb]) | (with_reducible refine Run.gG ?_ ?_ <;> intro hb <;> try simp only [hb]) | (with_reducible refine Run.gQ ?_ ?_ <;> intro hb <;> try simp only [hb])))
      rename_i hc
      have hc := of_decide_eq_false hc
      have hb := eq_of_beq hb
      rw [if_neg hc, if_pos hb] at hn
      have ho' := ho.grow (Frame.add (H := H) ⟨1, [[.int .u8 (l[k].toNat : Int)]]⟩ (fun _ => False))
      refine (Run.app (by show H.floor ≤ H.next + 1; omega) ho' (y := .ref H.next 1 0 1 1 true) (items := byR [l[k]]) (by simp [itemsV, Heap.add_blk, byR]) (by rw [byR_len, byR_len]; simp [room]; omega)).mono fun y H2 ⟨o2, f2, _⟩ => ?_
      (repeat' (first | (simp only [wp, extractV, exists_eq_left', if_true, if_false, ite_true, ite_false, reduceIte, Nat.reduceAdd, Nat.reduceLT, Nat.reduceLeDiff, Nat.reduceEqDiff]) | (with_reducible refine Run.gC ?_ ?_ <;> intro hb <;> try simp only [hb]) | (with_reducible refine Run.gG ?_ ?_ <;> intro hb <;> try simp only [hb]) | (with_reducible refine Run.gQ ?_ ?_ <;> intro hb <;> try simp only [hb])))
      refine ⟨hlt, a, y, W ++ [l[k]], rfl, by rw [byR_append]; exact o2, ?_, ha0, by omega, by simp; omega, by omega, by rw [List.append_assoc]; exact hn⟩
      have := f2.next
      have h3 := f2.floor
      rw [h3]
      show H.floor ≤ _
      have : (H.add ⟨1, [[.int .u8 (l[k].toNat : Int)]]⟩).next = H.next + 1 := rfl
      omega
    · rename_i hc
      have hc := of_decide_eq_false hc
      rw [if_neg hc, if_neg (by simpa using hb)] at hn
      exact ⟨hlt, _, _, W, rfl, ho, hf, by omega, by omega, by omega, by omega, hn⟩
  · have hd : l.drop k = [] := List.drop_of_length_le (by omega)
    rw [hd, nthL, List.append_nil] at hn
    subst hn
    (repeat' (first | (simp only [wp, extractV, exists_eq_left', if_true, if_false, ite_true, ite_false, reduceIte, Nat.reduceAdd, Nat.reduceLT, Nat.reduceLeDiff, Nat.reduceEqDiff, str_len, nltF hlt, Run.readOwn ho]) | (with_reducible refine Run.gC ?_ ?_ <;> intro hb <;> try simp only [hb]) | (with_reducible refine Run.gG ?_ ?_ <;> intro hb <;> try simp only [hb]) | (with_reducible refine Run.gQ ?_ ?_ <;> intro hb <;> try simp only [hb])))

/-- The words of the errors' numbers. -/
def wordsT : List UInt8 := [111, 107, 32, 115, 104, 111, 114, 116, 32, 114, 101, 115, 116, 32, 116, 97, 103, 32, 114, 97, 110, 103, 101, 32, 108, 101, 110, 103, 116, 104, 32, 115, 117, 109, 32, 107, 105, 110, 100, 32, 112, 108, 97, 110, 32, 115, 116, 97, 116, 101, 32, 98, 97, 115, 101, 32, 115, 105, 122, 101, 32, 97, 114, 103, 117, 109, 101, 110, 116, 32, 101, 110, 100, 32, 98, 117, 115, 121, 32, 100, 111, 119, 110, 32, 108, 111, 115, 116, 32, 110, 111, 110, 101, 32, 116, 101, 120, 116, 32, 115, 116, 111, 112, 32, 100, 105, 118, 105, 100, 101]
def errT : List UInt8 := [101, 114, 114, 111, 114]
def wordOf (m : Int) : List UInt8 := if m < 0 ∨ 20 < m then errT ++ [32] ++ Go.Lib.itoa m else nthL wordsT 0 m
theorem refWord_spec (n : Nat) {m : Int} (hm : inR m) : callV (cfg G) (sem (cfg G) (n + 2)) 73 [.int .i64 m] = M.ret (.str (bs (wordOf m))) := by
  refine callV_pure0 rfl rfl rfl ?_
  rw [ferry_ferryref27_Word_eq]
  simp only [ferry_ferryref27_Word]
  have e1 : ∀ (x : ByteArray), x = bs wordsT → callV (cfg G) (sem (cfg G) (n + 1)) 131 [.str x, .int .i64 m] = M.ret (.str (bs (nthL wordsT 0 m))) := fun x h => by
    rw [h]; exact nth_spec n (by decide) m
  have e2 := itoa_len hm.1 hm.2
  have e3 := str_add (a := errT ++ [32]) (b := Go.Lib.itoa m) (by simp [errT]; omega)
  have e4 : (⟨#[101, 114, 114, 111, 114, 32]⟩ : ByteArray) = bs (errT ++ [32]) := rfl
  have e5 := e1 _ (show (⟨wordsT.toArray⟩ : ByteArray) = bs wordsT from rfl)
  simp only [wordsT] at e5
  by_cases h0 : m < 0
  · (repeat' (first | (simp only [wp, extractV, exists_eq_left', if_true, if_false, ite_true, ite_false, reduceIte, Nat.reduceAdd, Nat.reduceLT, Nat.reduceLeDiff, Nat.reduceEqDiff, decide_eq_true h0, number_spec n hm, itoaB_bs, e4, e3]) | (with_reducible refine Run.gC ?_ ?_ <;> intro hb <;> try simp only [hb]) | (with_reducible refine Run.gG ?_ ?_ <;> intro hb <;> try simp only [hb]) | (with_reducible refine Run.gQ ?_ ?_ <;> intro hb <;> try simp only [hb])))
    rw [wordOf, if_pos (.inl h0)]
  · by_cases h20 : 20 < m
    · (repeat' (first | (simp only [wp, extractV, exists_eq_left', if_true, if_false, ite_true, ite_false, reduceIte, Nat.reduceAdd, Nat.reduceLT, Nat.reduceLeDiff, Nat.reduceEqDiff, decide_eq_false h0, decide_eq_true h20, number_spec n hm, itoaB_bs, e4, e3]) | (with_reducible refine Run.gC ?_ ?_ <;> intro hb <;> try simp only [hb]) | (with_reducible refine Run.gG ?_ ?_ <;> intro hb <;> try simp only [hb]) | (with_reducible refine Run.gQ ?_ ?_ <;> intro hb <;> try simp only [hb])))
      rw [wordOf, if_pos (.inr h20)]
    · (repeat' (first | (simp only [wp, extractV, exists_eq_left', if_true, if_false, ite_true, ite_false, reduceIte, Nat.reduceAdd, Nat.reduceLT, Nat.reduceLeDiff, Nat.reduceEqDiff, decide_eq_false h0, decide_eq_false h20, e5]) | (with_reducible refine Run.gC ?_ ?_ <;> intro hb <;> try simp only [hb]) | (with_reducible refine Run.gG ?_ ?_ <;> intro hb <;> try simp only [hb]) | (with_reducible refine Run.gQ ?_ ?_ <;> intro hb <;> try simp only [hb])))
      rw [wordOf, if_neg (by omega)]
      rfl

def wordL : List (List UInt8) := (List.range 21).map fun (k : Nat) => nthL wordsT 0 (k : Int)
theorem listed_spec (hG : tabOf G = true) (n : Nat) {x : V} {L : List (List UInt8)} (hx : Sls x 1 (L.map fun w => [V.str (bs w)])) (hne : ∀ w ∈ L, w ≠ []) {m : Int} (hm : inR m) {N : List UInt8} (hN : N.length ≤ 1000) :
    callV (cfg G) (sem (cfg G) (n + 2)) 128 [x, .int .i64 m, .str (bs N)] = M.ret (.str (bs (if 0 ≤ m ∧ m < L.length then L.getD m.toNat [] else N ++ [32] ++ Go.Lib.itoa m))) := by
  refine callV_pure0 rfl (by simp only [List.all_cons, List.all_nil, hx.closedV]; rfl) rfl ?_
  rw [ferry_run_listed_eq]
  simp only [ferry_run_listed]
  have e2 := itoa_len hm.1 hm.2
  have e3 := str_add (a := N ++ [32]) (b := Go.Lib.itoa m) (by simp; omega)
  have e4 := str_add (a := N) (b := [32]) (by simp; omega)
  have e5 : (⟨#[32]⟩ : ByteArray) = bs [32] := rfl
  have hl := hx.len
  rw [List.length_map] at hl
  by_cases h0 : 0 ≤ m
  · by_cases hlt : m < (L.length : Int)
    · have hi := hx.idxI (k := .i64) h0 (by rw [List.length_map]; exact hlt)
      rw [List.getElem_map] at hi
      have hw : L[m.toNat]'(by omega) ≠ [] := hne _ (List.getElem_mem _)
      have e6 : (⟨#[]⟩ : ByteArray) = bs [] := rfl
      have e7 : (L[m.toNat]'(by omega) == []) = false := beq_eq_false_iff_ne.2 hw
      have e8 : L.getD m.toNat [] = L[m.toNat]'(by omega) := by rw [List.getD_eq_getElem?_getD, List.getElem?_eq_getElem (by omega)]; rfl
      (repeat' (first | (simp only [wp, extractV, exists_eq_left', if_true, if_false, ite_true, ite_false, reduceIte, Nat.reduceAdd, Nat.reduceLT, Nat.reduceLeDiff, Nat.reduceEqDiff, decide_eq_true h0, hl, decide_eq_true hlt, hi, e6, bs_eqb, e7]) | (with_reducible refine Run.gC ?_ ?_ <;> intro hb <;> try simp only [hb]) | (with_reducible refine Run.gG ?_ ?_ <;> intro hb <;> try simp only [hb]) | (with_reducible refine Run.gQ ?_ ?_ <;> intro hb <;> try simp only [hb])))
      rw [if_pos ⟨h0, hlt⟩, e8]
    · (repeat' (first | (simp only [wp, extractV, exists_eq_left', if_true, if_false, ite_true, ite_false, reduceIte, Nat.reduceAdd, Nat.reduceLT, Nat.reduceLeDiff, Nat.reduceEqDiff, decide_eq_true h0, hl, decide_eq_false hlt, e5, e4, itoa_spec hG n hm, itoaB_bs, e3]) | (with_reducible refine Run.gC ?_ ?_ <;> intro hb <;> try simp only [hb]) | (with_reducible refine Run.gG ?_ ?_ <;> intro hb <;> try simp only [hb]) | (with_reducible refine Run.gQ ?_ ?_ <;> intro hb <;> try simp only [hb])))
      rw [if_neg (by omega)]
  · (repeat' (first | (simp only [wp, extractV, exists_eq_left', if_true, if_false, ite_true, ite_false, reduceIte, Nat.reduceAdd, Nat.reduceLT, Nat.reduceLeDiff, Nat.reduceEqDiff, decide_eq_false h0, e5, e4, itoa_spec hG n hm, itoaB_bs, e3]) | (with_reducible refine Run.gC ?_ ?_ <;> intro hb <;> try simp only [hb]) | (with_reducible refine Run.gG ?_ ?_ <;> intro hb <;> try simp only [hb]) | (with_reducible refine Run.gQ ?_ ?_ <;> intro hb <;> try simp only [hb])))
    rw [if_neg (by omega)]

theorem words_ne : ∀ w ∈ wordL, w ≠ [] := by decide +kernel
theorem words_len : wordL.length = 21 := rfl
theorem words_at : ∀ k, k < 21 → wordL.getD k [] = nthL wordsT 0 (k : Int) := fun k hk => by
  unfold wordL
  rw [List.getD_eq_getElem?_getD, List.getElem?_map, List.getElem?_range hk]
  rfl
theorem wordL_eq : wordL = [[111, 107], [115, 104, 111, 114, 116], [114, 101, 115, 116], [116, 97, 103], [114, 97, 110, 103, 101], [108, 101, 110, 103, 116, 104], [115, 117, 109], [107, 105, 110, 100], [112, 108, 97, 110], [115, 116, 97, 116, 101], [98, 97, 115, 101], [115, 105, 122, 101], [97, 114, 103, 117, 109, 101, 110, 116], [101, 110, 100], [98, 117, 115, 121], [100, 111, 119, 110], [108, 111, 115, 116], [110, 111, 110, 101], [116, 101, 120, 116], [115, 116, 111, 112], [100, 105, 118, 105, 100, 101]] := by decide +kernel
set_option maxRecDepth 20000 in
theorem word_spec (hG : tabOf G = true) (n : Nat) {m : Int} (hm : inR m) : callV (cfg G) (sem (cfg G) (n + 3)) 68 [.int .i64 m] = M.ret (.str (bs (wordOf m))) := by
  refine callV_pure0 rfl rfl rfl ?_
  rw [ferry_run_Word_eq]
  simp only [ferry_run_Word]
  have e : ∀ x, Sls x 1 (wordL.map fun w => [V.str (bs w)]) → callV (cfg G) (sem (cfg G) (n + 2)) 128 [x, .int .i64 m, .str (bs errT)] = M.ret (.str (bs (wordOf m))) := fun x hx => by
    rw [listed_spec hG n hx words_ne hm (by decide)]
    congr 3
    rw [words_len]
    unfold wordOf
    by_cases h : 0 ≤ m ∧ m < ((21 : Nat) : Int)
    · rw [if_pos h, if_neg (by omega), words_at _ (by omega)]
      congr 1
      omega
    · rw [if_neg h, if_pos (by omega)]
  (repeat' (first | (simp only [wp, extractV, exists_eq_left', if_true, if_false, ite_true, ite_false, reduceIte, Nat.reduceAdd, Nat.reduceLT, Nat.reduceLeDiff, Nat.reduceEqDiff]) | (with_reducible refine Run.gC ?_ ?_ <;> intro hb <;> try simp only [hb]) | (with_reducible refine Run.gG ?_ ?_ <;> intro hb <;> try simp only [hb]) | (with_reducible refine Run.gQ ?_ ?_ <;> intro hb <;> try simp only [hb])))
  refine Run.slice.2 ⟨wordL.map fun w => [V.str (bs w)], by rw [wordL_eq]; rfl, ?_⟩
  (repeat' (first | (simp only [wp, extractV, exists_eq_left', if_true, if_false, ite_true, ite_false, reduceIte, Nat.reduceAdd, Nat.reduceLT, Nat.reduceLeDiff, Nat.reduceEqDiff]) | (with_reducible refine Run.gC ?_ ?_ <;> intro hb <;> try simp only [hb]) | (with_reducible refine Run.gG ?_ ?_ <;> intro hb <;> try simp only [hb]) | (with_reducible refine Run.gQ ?_ ?_ <;> intro hb <;> try simp only [hb])))
  have hlen : (wordL.map fun w => [V.str (bs w)]).length = 21 := by rw [List.length_map]; rfl
  have hfl : flatRows (wordL.map fun w => [V.str (bs w)]) = true := by simp [flatRows, V.flat]
  have ht : ∀ K : Heap, K.blk 0 = some ⟨1, wordL.map fun w => [V.str (bs w)]⟩ → thawV true K (.ref 0 1 0 (wordL.map fun w => [V.str (bs w)]).length (wordL.map fun w => [V.str (bs w)]).length true) = some (.imm 1 (wordL.map fun w => [V.str (bs w)])) := fun K hK => by
    generalize wordL.map (fun w => [V.str (bs w)]) = R at *
    simp [thawV, thaw, hK, hfl]
  refine (Run.callRef (bs := [.imm 1 (wordL.map fun w => [V.str (bs w)]), .int .i64 m, .str (bs errT)]) rfl ?_ rfl (e _ (Sls.imm _ _)) rfl).2 ?_
  · have h1 := ht (Heap.empty.add ⟨1, wordL.map fun w => [V.str (bs w)]⟩) rfl
    generalize wordL.map (fun w => [V.str (bs w)]) = R at *
    have e0 : (V.str ⟨#[101, 114, 114, 111, 114]⟩) = V.str (bs errT) := rfl
    rw [e0, List.mapM_cons, h1]
    rfl
  · (repeat' (first | (simp only [wp, extractV, exists_eq_left', if_true, if_false, ite_true, ite_false, reduceIte, Nat.reduceAdd, Nat.reduceLT, Nat.reduceLeDiff, Nat.reduceEqDiff]) | (with_reducible refine Run.gC ?_ ?_ <;> intro hb <;> try simp only [hb]) | (with_reducible refine Run.gG ?_ ?_ <;> intro hb <;> try simp only [hb]) | (with_reducible refine Run.gQ ?_ ?_ <;> intro hb <;> try simp only [hb])))

end Go.Fv.Tr
