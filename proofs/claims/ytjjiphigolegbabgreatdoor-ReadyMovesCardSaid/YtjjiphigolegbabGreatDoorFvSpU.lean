/-
  What the functions of the layer 9 answer: Waiters, Best, Equal. By an AI agent; no person has read it.
-/
import Derived.Test.YtjjiphigolegbabGreatDoorFvSpK
import Derived.Test.YtjjiphigolegbabGreatDoorFvSpM
import Derived.Test.YtjjiphigolegbabGreatDoorFvTr8
set_option linter.unusedVariables false
set_option linter.unusedSimpArgs false
set_option linter.unusedSectionVars false
/-! What the functions of the layer 9 answer: Waiters, Best, Equal. -/
namespace Go.Fv.Tr
open Go Go.Fv Go.Fv.Pl Go.Proofs
set_option linter.unusedSimpArgs false
set_option linter.unusedVariables false
variable {G : Nat → Option (List V)}

def waits (w o : Int) (p : Pr) : Prop := p.state = 2 ∧ p.wait = w ∧ p.obj = o
instance (w o : Int) (p : Pr) : Decidable (waits w o p) := inferInstanceAs (Decidable (_ ∧ _ ∧ _))
/-- Who of the first so many waits for the thing. -/
def wtN (ps : List Pr) (w o : Int) : Nat → List Int
  | 0 => []
  | i + 1 => wtN ps w o i ++ if (ps[i]?.map fun p => decide (waits w o p)) = some true then [(i : Int)] else []
def wt (ps : List Pr) (w o : Int) : List Int := wtN ps w o ps.length
theorem wtN_len (ps : List Pr) (w o : Int) : ∀ i, (wtN ps w o i).length ≤ i
  | 0 => Nat.le_refl _
  | i + 1 => by
    have := wtN_len ps w o i
    rw [wtN, List.length_append]
    split <;> simp <;> omega
theorem mem_wtN {ps : List Pr} {w o n : Int} : ∀ {i : Nat}, n ∈ wtN ps w o i ↔ ∃ j : Nat, j < i ∧ n = j ∧ ∃ p, ps[j]? = some p ∧ waits w o p
  | 0 => by simp [wtN]
  | i + 1 => by
    rw [wtN, List.mem_append, mem_wtN]
    constructor
    · rintro (⟨j, h1, h2, h3⟩ | h)
      · exact ⟨j, by omega, h2, h3⟩
      · split at h
        · rename_i hc
          rw [List.mem_singleton] at h
          obtain ⟨p, hp, hw⟩ := Option.map_eq_some_iff.1 hc
          exact ⟨i, Nat.lt_succ_self i, h, p, hp, of_decide_eq_true hw⟩
        · cases h
    · rintro ⟨j, h1, h2, p, hp, hw⟩
      rcases Nat.lt_succ_iff_lt_or_eq.1 h1 with h | rfl
      · exact .inl ⟨j, h, h2, p, hp, hw⟩
      · right
        rw [if_pos (by rw [hp]; simp [hw])]
        exact List.mem_singleton.2 h2
theorem mem_wt {ps : List Pr} {w o n : Int} : n ∈ wt ps w o ↔ ∃ p, at? ps n = some p ∧ waits w o p := by
  unfold wt
  rw [mem_wtN]
  constructor
  · rintro ⟨j, _, rfl, p, hp, hw⟩
    exact ⟨p, by rw [at?_nat]; exact hp, hw⟩
  · rintro ⟨p, hp, hw⟩
    have h1 := at?_lt hp
    obtain ⟨h2, h3⟩ := at?_some.1 hp
    exact ⟨n.toNat, by omega, by omega, p, h3, hw⟩
theorem wtN_lt {ps : List Pr} {w o n : Int} {i : Nat} (h : n ∈ wtN ps w o i) : n < i := by
  obtain ⟨j, h1, rfl, _⟩ := mem_wtN.1 h
  omega
theorem wtN_nodup (ps : List Pr) (w o : Int) : ∀ i, (wtN ps w o i).Nodup
  | 0 => by simp [wtN]
  | i + 1 => by
    rw [wtN, List.nodup_append]
    refine ⟨wtN_nodup ps w o i, by split <;> simp, fun a ha b hb e => ?_⟩
    have := wtN_lt ha
    split at hb
    · rw [List.mem_singleton] at hb; omega
    · cases hb
theorem wt_nodup (ps : List Pr) (w o : Int) : (wt ps w o).Nodup := wtN_nodup ps w o _
theorem wtN_snoc {ps : List Pr} {w o : Int} {i : Nat} (h : i < ps.length) : wtN ps w o (i + 1) = wtN ps w o i ++ if waits w o ps[i] then [(i : Int)] else [] := by
  rw [wtN, List.getElem?_eq_getElem h]
  simp

/-- A copy of a process in a block of its own. -/
theorem Frame.pr {H : Heap} {p : Pr} (z : List V) : Frame H ((H.add ⟨21, [z]⟩).set H.next ⟨21, [prRow p]⟩) (fun _ => False) := Frame.loc _ _

theorem waiters_spec (n : Nat) {x y z : V} {t : Tab} (h : IsTab x y z t) (hr : t.ps.length * 8 ≤ room) (w o : Int) : Says (cfg G) (sem (cfg G) (n + 1)) 64 [.agg [x, y, z], .int .i64 w, .int .i64 o] fun r => Sls r 1 ((wt t.ps w o).map intRow) := by
  intro ok
  rw [ferry_ready_Waiters_eq]
  simp only [ferry_ready_Waiters]
  (repeat' (first | (simp only [wp, extractV, exists_eq_left', if_true, if_false, ite_true, ite_false, reduceIte, Nat.reduceAdd, Nat.reduceLT, Nat.reduceLeDiff, Nat.reduceEqDiff, h.p.len, List.length_map]) | (with_reducible refine Run.gC ?_ ?_ <;> intro hb <;> try simp only [hb]) | (with_reducible refine Run.gG ?_ ?_ <;> intro hb <;> try simp only [hb]) | (with_reducible refine Run.gQ ?_ ?_ <;> intro hb <;> try simp only [hb])))
  refine Run.loop (N := t.ps.length) (fun i s H => ∃ a, s = [a, .int .i64 (i : Nat)] ∧ H.floor = 0 ∧ Own H a 1 ((wtN t.ps w o i).map intRow)) ⟨_, rfl, rfl, Own.nils _ _⟩ ?_
  rintro i s H hi ⟨a, rfl, hf, ha⟩
  by_cases hlt : i < t.ps.length
  · have h2 := h.p.idx (k := .i64) (i := i) (by simpa using hlt)
    simp only [List.getElem_map] at h2
    have hw := h.wp _ (List.getElem_mem hlt)
    have fr := Frame.loc (H := H) ⟨21, [[.int .u32 0, .int .u32 0, .int .u32 0, .int .u32 0, .int .u32 0, .int .u32 0, .int .u32 0, .int .u32 0, .int .u32 0, .int .u32 0, .int .u32 0, .int .u32 0, .int .u32 0, .int .u32 0, .int .u32 0, .int .u32 0, .int .u32 0, .int .i64 0, .int .i64 0, .int .i64 0, .int .i64 0]]⟩ ⟨21, [prRow t.ps[i]]⟩
    have hs := wtN_snoc (w := w) (o := o) hlt
    have no : ¬ waits w o t.ps[i] → Own ((H.add ⟨21, [[.int .u32 0, .int .u32 0, .int .u32 0, .int .u32 0, .int .u32 0, .int .u32 0, .int .u32 0, .int .u32 0, .int .u32 0, .int .u32 0, .int .u32 0, .int .u32 0, .int .u32 0, .int .u32 0, .int .u32 0, .int .u32 0, .int .u32 0, .int .i64 0, .int .i64 0, .int .i64 0, .int .i64 0]]⟩).set H.next ⟨21, [prRow t.ps[i]]⟩) a 1 ((wtN t.ps w o (i + 1)).map intRow) := fun hn => by
      rw [hs, if_neg hn, List.append_nil]; exact ha.frame fr fun _ _ h => h
    simp only [ferry_ready_Waiters_l1]
    (repeat' (first | (simp only [wp, extractV, exists_eq_left', if_true, if_false, ite_true, ite_false, reduceIte, Nat.reduceAdd, Nat.reduceLT, Nat.reduceLeDiff, Nat.reduceEqDiff, ltT hlt, h2, hf, pr_len hw, pr_take hw, pr_state hw, pr_wait hw, pr_obj hw, addN hlt h.big.1]) | (with_reducible refine Run.gC ?_ ?_ <;> intro hb <;> try simp only [hb]) | (with_reducible refine Run.gG ?_ ?_ <;> intro hb <;> try simp only [hb]) | (with_reducible refine Run.gQ ?_ ?_ <;> intro hb <;> try simp only [hb])))
    · have hw' : waits w o t.ps[i] := by unfold waits; simp_all
      rw [if_pos hw'] at hs
      refine (Run.slice (n := 0)).2 ⟨[intRow (i : Int)], rfl, ?_⟩
      have fr2 := fr.trans (Frame.add ⟨1, [intRow (i : Int)]⟩ (fun _ => False)) (r := fun _ => False) (fun _ _ h => h) (fun _ _ h => h)
      have hlen := wtN_len t.ps w o i
      refine (Run.app (items := [intRow (i : Int)]) (by rw [fr2.floor, hf]; exact Nat.zero_le _) (ha.frame fr2 fun _ _ h => h) (by simp [itemsV, Heap.add_next, Heap.add_blk]) (by simp only [List.length_map, List.length_cons, List.length_nil]; omega)).mono fun x' H3 ⟨o3, f3, l3⟩ => ?_
      (repeat' (first | (simp only [wp, extractV, exists_eq_left', if_true, if_false, ite_true, ite_false, reduceIte, Nat.reduceAdd, Nat.reduceLT, Nat.reduceLeDiff, Nat.reduceEqDiff, addN hlt h.big.1]) | (with_reducible refine Run.gC ?_ ?_ <;> intro hb <;> try simp only [hb]) | (with_reducible refine Run.gG ?_ ?_ <;> intro hb <;> try simp only [hb]) | (with_reducible refine Run.gQ ?_ ?_ <;> intro hb <;> try simp only [hb])))
      exact ⟨hlt, _, rfl, by rw [f3.floor, fr2.floor, hf], by rw [hs, List.map_append]; exact o3⟩
    all_goals exact ⟨hlt, _, rfl, no (by unfold waits; simp_all)⟩
  · simp only [ferry_ready_Waiters_l1]
    have e : i = t.ps.length := by omega
    rw [e] at ha
    (repeat' (first | (simp only [wp, extractV, exists_eq_left', if_true, if_false, ite_true, ite_false, reduceIte, Nat.reduceAdd, Nat.reduceLT, Nat.reduceLeDiff, Nat.reduceEqDiff, ltF hlt]) | (with_reducible refine Run.gC ?_ ?_ <;> intro hb <;> try simp only [hb]) | (with_reducible refine Run.gG ?_ ?_ <;> intro hb <;> try simp only [hb]) | (with_reducible refine Run.gQ ?_ ?_ <;> intro hb <;> try simp only [hb])))
    obtain ⟨w, hw, _, hs⟩ := ha.thawV (flat_ir _) ok
    exact ⟨w, hw, hs⟩

end Go.Fv.Tr
