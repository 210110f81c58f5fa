/-
  The laws of the layer 8: what is known, what is formed; firing in steps. By an AI agent; no person has read it.
-/
import Derived.Test.YtjjiphigolegbabDoorFvSpN
set_option linter.unusedVariables false
set_option linter.unusedSimpArgs false
set_option linter.unusedSectionVars false
/-! The laws of the layer 8: what is known, what is formed; firing in steps. -/
namespace Go.Fv.Tr
open Go Go.Fv Go.Fv.Pl Go.Proofs
set_option linter.unusedSimpArgs false
set_option linter.unusedVariables false
variable {G : Nat → Option (List V)}

theorem set_known : setT [⟨0, 7⟩] 2 5 = [⟨2, 5⟩, ⟨0, 7⟩] := by decide
theorem ok_known : TsOk 8 [⟨2, 5⟩, ⟨0, 7⟩] := TsOk_iff.2 ⟨by decide, by decide, by decide⟩
theorem ok_known0 : TsOk 8 [⟨0, 7⟩] := TsOk_iff.2 ⟨by decide, by decide, by decide⟩
theorem known_spec (hG : TErrs G) (n : Nat) : callV (cfg G) (sem (cfg G) (n + 8)) 15 [] = M.ret (.bool true) := by
  refine callV_pure0 rfl rfl rfl ?_
  rw [ferry_ferrylaw08_known_eq]
  simp only [ferry_ferrylaw08_known]
  (repeat' (first | (simp only [wp, extractV, exists_eq_left', if_true, if_false, ite_true, ite_false, reduceIte, Nat.reduceAdd, Nat.reduceLT, Nat.reduceLeDiff, Nat.reduceEqDiff, buildV, fill, putRow]) | (with_reducible refine Run.gC ?_ ?_ <;> intro hb <;> try simp only [hb]) | (with_reducible refine Run.gG ?_ ?_ <;> intro hb <;> try simp only [hb]) | (with_reducible refine Run.gQ ?_ ?_ <;> intro hb <;> try simp only [hb])))
  refine (Run.slice (n := 0)).2 ⟨[tmRow ⟨0, 7⟩], rfl, ?_⟩
  have hx : Sls (.imm 2 [tmRow ⟨0, 7⟩]) 2 (([⟨0, 7⟩] : List Tm).map tmRow) := Sls.imm _ _
  refine Run.ans (bs := [.imm 2 [tmRow ⟨0, 7⟩], .int .i64 2, .int .i64 5]) rfl ?_ (set_spec hG.s n hx (by decide) 2 5) fun r hr => ?_
  · simp [thawV, thaw, Heap.add_blk, flatRows, V.flat, tmRow]
  · rcases hr with ⟨_, _, y, rfl, hy⟩ | ⟨_, h, _⟩ | ⟨h, _⟩
    · rw [set_known] at hy
      (repeat' (first | (simp only [wp, extractV, exists_eq_left', if_true, if_false, ite_true, ite_false, reduceIte, Nat.reduceAdd, Nat.reduceLT, Nat.reduceLeDiff, Nat.reduceEqDiff]) | (with_reducible refine Run.gC ?_ ?_ <;> intro hb <;> try simp only [hb]) | (with_reducible refine Run.gG ?_ ?_ <;> intro hb <;> try simp only [hb]) | (with_reducible refine Run.gQ ?_ ?_ <;> intro hb <;> try simp only [hb])))
      obtain ⟨r2, e2, h2⟩ := (fire_spec hG (n + 2) hy (by decide) 6).eq rfl (by simp [hy.closedV, cI])
      rcases h2 with ⟨_, u, v, rfl, hu, hv⟩ | ⟨h, _⟩
      · rw [show dues [⟨2, 5⟩, ⟨0, 7⟩] 6 = [2] by decide] at hu
        rw [show left [⟨2, 5⟩, ⟨0, 7⟩] 6 = [⟨0, 7⟩] by decide] at hv
        have i1 := hu.idx (k := .i64) (i := 0) (by decide)
        have i2 := hv.idx (k := .i64) (i := 0) (by decide)
        simp only [List.map_cons, List.map_nil, List.getElem_cons_zero, Int.natCast_zero] at i1 i2
        have l1 := hu.len
        have l2 := hv.len
        have l3 := hy.len
        simp only [List.map_cons, List.map_nil, List.length_cons, List.length_nil] at l1 l2 l3
        (repeat' (first | (simp only [wp, extractV, exists_eq_left', if_true, if_false, ite_true, ite_false, reduceIte, Nat.reduceAdd, Nat.reduceLT, Nat.reduceLeDiff, Nat.reduceEqDiff, e2, i1, i2, l1, l2, l3, ir_at, tm_due, Nat.reduceAdd]) | (with_reducible refine Run.gC ?_ ?_ <;> intro hb <;> try simp only [hb]) | (with_reducible refine Run.gG ?_ ?_ <;> intro hb <;> try simp only [hb]) | (with_reducible refine Run.gQ ?_ ?_ <;> intro hb <;> try simp only [hb])))
        all_goals simp_all
      · exact absurd ok_known h
    · exact absurd (by decide) h
    · exact absurd ok_known0 h

def modI (n : Int) (m : Int) : Int := (IntKind.u64.wrap n).tmod m
theorem modI_lt (n : Int) {m : Int} (hm : 0 < m) : 0 ≤ modI n m ∧ modI n m < m := by
  unfold modI
  have h : 0 ≤ IntKind.u64.wrap n := by simp [IntKind.wrap, IntKind.bits, IntKind.signed]; omega
  rw [Int.tmod_eq_emod_of_nonneg h]
  exact ⟨Int.emod_nonneg _ (by omega), Int.emod_lt_of_pos _ hm⟩
theorem rem_u {a b : Int} (h : b ≠ 0) : arithV .rem (.int .u64 a) (.int .u64 b) = some (.int .u64 (a.tmod b)) := by simp [arithV, h]
theorem conv_u {k : IntKind} {n : Int} : convI .u64 (.int k n) = some (.int .u64 (IntKind.u64.wrap n)) := rfl
theorem conv_i {k : IntKind} {n : Int} {m : Int} (hm : 0 < m) (h : m ≤ 9223372036854775807) : convI .i64 (.int k ((IntKind.u64.wrap n).tmod m)) = some (.int .i64 (modI n m)) := by
  have := modI_lt n hm
  unfold modI at this ⊢
  simp only [convI]
  rw [IntWalk.i64_in _ (by omega)]
def formT (t : Tm) : Tm := ⟨modI t.proc 8, modI t.due 1010001⟩
def addF (l : List Tm) (t : Tm) : List Tm := if (formT t).proc ∈ l.map Tm.proc then l else l ++ [formT t]
def formL (raw : List Tm) : List Tm := raw.foldl addF []
theorem formL_snoc (l : List Tm) (t : Tm) : formL (l ++ [t]) = addF (formL l) t := by unfold formL; rw [List.foldl_append]; rfl
theorem formT_right (t : Tm) : right 8 (formT t) := by
  have h1 := modI_lt t.proc (m := 8) (by omega)
  have h2 := modI_lt t.due (m := 1010001) (by omega)
  simp only [right, formT]
  omega
theorem addF_ok {l : List Tm} (h : allRight l ∧ (l.map Tm.proc).Nodup) (t : Tm) : allRight (addF l t) ∧ ((addF l t).map Tm.proc).Nodup := by
  unfold addF
  split
  · exact h
  · rename_i hn
    refine ⟨fun x hx => ?_, ?_⟩
    · rcases List.mem_append.1 hx with g | g
      · exact h.1 x g
      · rw [List.mem_singleton] at g; subst g; exact formT_right t
    · rw [List.map_append, List.nodup_append]
      refine ⟨h.2, by simp, fun a ha b hb e => hn ?_⟩
      simp only [List.map_cons, List.map_nil, List.mem_singleton] at hb
      rw [← hb, ← e]; exact ha
theorem formL_ok' : ∀ (raw l : List Tm), allRight l ∧ (l.map Tm.proc).Nodup → allRight (raw.foldl addF l) ∧ ((raw.foldl addF l).map Tm.proc).Nodup
  | [], l, h => h
  | t :: raw, l, h => formL_ok' raw _ (addF_ok h t)
theorem formL_ok (raw : List Tm) : allRight (formL raw) ∧ ((formL raw).map Tm.proc).Nodup := formL_ok' raw [] ⟨by simp [allRight], by simp⟩
theorem form_ok (raw : List Tm) : TsOk 8 (isort (formL raw)) := isort_ok (formL_ok raw).1 (formL_ok raw).2

theorem dues_dues {l : List Tm} (h : TsOk 8 l) {now later : Int} (hle : now ≤ later) : dues l later = dues l now ++ dues (left l now) later := by
  unfold dues left
  rw [filter_split h.pairwise hle, List.map_append]
theorem left_left {l : List Tm} {now later : Int} (hle : now ≤ later) : left (left l now) later = left l later := by
  unfold left
  rw [List.filter_filter]
  refine List.filter_congr fun a _ => ?_
  simp only [Bool.and_eq_decide, decide_eq_true_eq]
  exact decide_eq_decide.2 ⟨fun h => h.1, fun h => ⟨h, by omega⟩⟩
theorem left_ok {l : List Tm} (h : TsOk 8 l) (now : Int) : TsOk 8 (left l now) := h.filter _
theorem dues_left_len (l : List Tm) (now : Int) : (dues l now).length + (left l now).length = l.length := by
  unfold dues left
  rw [List.length_map]
  induction l with
  | nil => rfl
  | cons a l ih => by_cases h : a.due ≤ now
                   · rw [List.filter_cons_of_pos (by simpa using h), List.filter_cons_of_neg (by simp; omega)]; simp only [List.length_cons]; omega
                   · rw [List.filter_cons_of_neg (by simpa using h), List.filter_cons_of_pos (by simp; omega)]; simp only [List.length_cons]; omega
end Go.Fv.Tr
