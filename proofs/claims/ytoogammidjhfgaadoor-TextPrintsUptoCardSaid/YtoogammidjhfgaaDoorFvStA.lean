/-
  Scripts as plain data; which parts can be written: the program's question and the document's. By an AI agent; no person has read it.
-/
import Derived.Test.YtoogammidjhfgaaDoorFvTr20
import Derived.Test.YtoogammidjhfgaaDoorFvTr21
import Derived.Test.YtoogammidjhfgaaDoorFvStr
import Derived.Test.YtoogammidjhfgaaDoorFvRd
set_option linter.unusedVariables false
set_option linter.unusedSimpArgs false
set_option linter.unusedSectionVars false
/-! Scripts as plain data; which parts can be written: the program's question and the document's. -/
namespace Go.Fv.Tr
open Go Go.Fv Go.Proofs
set_option linter.unusedSimpArgs false
set_option linter.unusedVariables false
variable {G : Nat → Option (List V)}

structure Pg where
  r : Int
  s : ByteArray
structure Pc where
  e : Int
  p : Int
  a : Bool
structure Pt where
  k : Int
  z : Int
  d : Int
  f : Int
structure Pl where
  id : Int
  mob : Bool
  pgs : List Pg
  prs : List Pc
  pts : List Pt
  ev : Int
  sems : List Int
structure Wn where
  p : Int
  s : Int
  l : Int
structure Q4 where
  a : Int
  b : Int
  c : Int
  d : Int
structure In where
  p : Int
  f : Int
  q : Int
  d : ByteArray
structure Sc where
  ticks : Int
  parts : List Pl
  homes : List Int
  wins : List Wn
  links : List Q4
  tries : Int
  ins : List In
  ops : List Q4
abbrev iV (n : Int) : V := .int .i64 n
def iR (n : Int) : List V := [iV n]
def pgR (p : Pg) : List V := [iV p.r, .str p.s]
def pcR (p : Pc) : List V := [iV p.e, iV p.p, .bool p.a]
def ptR (p : Pt) : List V := [iV p.k, iV p.z, iV p.d, iV p.f]
def wnR (w : Wn) : List V := [iV w.p, iV w.s, iV w.l]
def q4R (q : Q4) : List V := [iV q.a, iV q.b, iV q.c, iV q.d]
def inpR (n : In) : List V := [iV n.p, iV n.f, iV n.q, .str n.d]
theorem flat_map {α : Type} {f : α → List V} (h : ∀ a, (f a).all V.flat = true) (l : List α) : flatRows (l.map f) = true := by
  unfold flatRows
  rw [List.all_eq_true]
  intro r hr
  obtain ⟨a, _, rfl⟩ := List.mem_map.1 hr
  exact h a
theorem flat_i (l : List Int) : flatRows (l.map iR) = true := flat_map (fun _ => rfl) l
theorem flat_pg (l : List Pg) : flatRows (l.map pgR) = true := flat_map (fun _ => rfl) l
theorem flat_pc (l : List Pc) : flatRows (l.map pcR) = true := flat_map (fun _ => rfl) l
theorem flat_pt (l : List Pt) : flatRows (l.map ptR) = true := flat_map (fun _ => rfl) l
theorem flat_wn (l : List Wn) : flatRows (l.map wnR) = true := flat_map (fun _ => rfl) l
theorem flat_q4 (l : List Q4) : flatRows (l.map q4R) = true := flat_map (fun _ => rfl) l
theorem flat_in (l : List In) : flatRows (l.map inpR) = true := flat_map (fun _ => rfl) l

def pgOk (g : Pg) : Bool := decide (0 ≤ g.r) && decide (g.r ≤ 7)
def ptOk (q : Pt) : Bool := (q.k == 1 && q.d == 1) || (q.k == 2 && q.d == 1 && q.f == 0) || ((q.k == 3 || q.k == 4) && q.f == 0)
theorem ptOk_form (q : Pt) : ptOk q = !((decide (q.k < 1) || decide (4 < q.k)) || ((q.k == 1 || q.k == 2) && !(q.d == 1)) || (!(q.k == 1) && !(q.f == 0))) := by
  obtain ⟨k, z, d, f⟩ := q
  simp only [ptOk]
  by_cases k1 : k = 1
  · subst k1; cases (d == 1) <;> rfl
  by_cases k2 : k = 2
  · subst k2; cases (d == 1) <;> cases (f == 0) <;> rfl
  by_cases k3 : k = 3
  · subst k3; cases (f == 0) <;> rfl
  by_cases k4 : k = 4
  · subst k4; cases (f == 0) <;> rfl
  have e1 : (k == 1) = false := beq_eq_false_iff_ne.2 k1
  have e2 : (k == 2) = false := beq_eq_false_iff_ne.2 k2
  have e3 : (k == 3) = false := beq_eq_false_iff_ne.2 k3
  have e4 : (k == 4) = false := beq_eq_false_iff_ne.2 k4
  have e5 : (decide (k < 1) || decide (4 < k)) = true := by
    rw [Bool.or_eq_true, decide_eq_true_eq, decide_eq_true_eq]; omega
  rw [e1, e2, e3, e4, e5]
  rfl
def goodB (p : Pl) (i : Int) : Bool := (p.id == i) && p.pgs.all pgOk && p.pts.all ptOk
theorem all_take {α : Type} {l : List α} {f : α → Bool} {k : Nat} (hk : k < l.length) (h : (l.take k).all f = true) : (l.take (k + 1)).all f = f l[k] := by
  rw [List.take_succ_eq_append_getElem hk, List.all_append, h]
  simp
theorem all_of {α : Type} {l : List α} {f : α → Bool} {k : Nat} (hk : k < l.length) (h : f l[k] = false) : l.all f = false := by
  rw [List.all_eq_false]
  exact ⟨l[k], List.getElem_mem hk, by simp [h]⟩

/-- A part's cells, each list as it only is read. -/
def PlS (row : List V) (p : Pl) : Prop := ∃ a b c d, row = [iV p.id, .bool p.mob, a, b, c, iV p.ev, d] ∧ Sls a 2 (p.pgs.map pgR) ∧ Sls b 3 (p.prs.map pcR) ∧ Sls c 4 (p.pts.map ptR) ∧ Sls d 1 (p.sems.map iR)
theorem PlS.closed {row : List V} {p : Pl} (h : PlS row p) : (V.agg row).closedV = true := by
  obtain ⟨a, b, c, d, rfl, ha, hb, hc, hd⟩ := h
  show ([iV p.id, .bool p.mob, a, b, c, iV p.ev, d] : List V).all V.closed = true
  simp only [List.all_cons, List.all_nil, ha.closed, hb.closed, hc.closed, hd.closed]
  rfl
theorem map_get {α : Type} {l : List α} {f : α → List V} {i : Nat} (h : i < l.length) : (l.map f)[i]'(by rw [List.length_map]; exact h) = f l[i] := List.getElem_map _

set_option maxRecDepth 20000 in
theorem goodPart_spec (n : Nat) {row : List V} {p : Pl} (h : PlS row p) (h1 : p.pgs.length ≤ 9223372036854775807) (h2 : p.pts.length ≤ 9223372036854775807) (i : Int) :
    callV (cfg G) (sem (cfg G) (n + 1)) 133 [.agg row, .int .i64 i] = M.ret (.bool (goodB p i)) := by
  refine callV_pure0 rfl (by simp only [List.all_cons, List.all_nil, h.closed]; rfl) rfl ?_
  obtain ⟨a, b, c, d, rfl, ha, hb, hc, hd⟩ := h
  rw [ferry_text_goodPart_eq]
  simp only [ferry_text_goodPart]
  have la := ha.len
  have lc := hc.len
  rw [List.length_map] at la lc
  by_cases heq : (p.id == i) = true
  case neg =>
    have hne : (p.id == i) = false := by simpa using heq
    (repeat' (first | (simp only [wp, extractV, exists_eq_left', if_true, if_false, ite_true, ite_false, reduceIte, Nat.reduceAdd, Nat.reduceLT, Nat.reduceLeDiff, Nat.reduceEqDiff, la, lc, hne]) | (with_reducible refine Run.gC ?_ ?_ <;> intro hb <;> try simp only [hb]) | (with_reducible refine Run.gG ?_ ?_ <;> intro hb <;> try simp only [hb]) | (with_reducible refine Run.gQ ?_ ?_ <;> intro hb <;> try simp only [hb])))
    rw [goodB, hne]
    rfl
  (repeat' (first | (simp only [wp, extractV, exists_eq_left', if_true, if_false, ite_true, ite_false, reduceIte, Nat.reduceAdd, Nat.reduceLT, Nat.reduceLeDiff, Nat.reduceEqDiff, la, lc, heq]) | (with_reducible refine Run.gC ?_ ?_ <;> intro hb <;> try simp only [hb]) | (with_reducible refine Run.gG ?_ ?_ <;> intro hb <;> try simp only [hb]) | (with_reducible refine Run.gQ ?_ ?_ <;> intro hb <;> try simp only [hb])))
  refine Run.loop (N := p.pgs.length) (fun k s H => s = [.bool false, iV k] ∧ H.floor = 0 ∧ 0 < H.next ∧ H.blk 0 = some ⟨7, [[iV p.id, .bool p.mob, a, b, c, iV p.ev, d]]⟩ ∧ (p.pgs.take k).all pgOk = true) ⟨rfl, rfl, by exact Nat.zero_lt_one, rfl, rfl⟩ ?_
  rintro k s H hk ⟨rfl, hf, hn, htb, hall⟩
  simp only [ferry_text_goodPart_l1]
  have h0n : ¬ (0 = H.next) := by omega
  by_cases hlt : k < p.pgs.length
  · have hix := ha.idx (k := .i64) (i := k) (by rw [List.length_map]; exact hlt)
    rw [map_get hlt] at hix
    have hst := all_take (f := pgOk) hlt hall
    by_cases c0 : p.pgs[k].r < 0
    · have hbad : pgOk p.pgs[k] = false := by unfold pgOk; rw [decide_eq_false (by omega)]; rfl
      (repeat' (first | (simp only [wp, extractV, exists_eq_left', if_true, if_false, ite_true, ite_false, reduceIte, Nat.reduceAdd, Nat.reduceLT, Nat.reduceLeDiff, Nat.reduceEqDiff, nltT hlt, hix, pgR, hf, decide_eq_true c0]) | (with_reducible refine Run.gC ?_ ?_ <;> intro hb <;> try simp only [hb]) | (with_reducible refine Run.gG ?_ ?_ <;> intro hb <;> try simp only [hb]) | (with_reducible refine Run.gQ ?_ ?_ <;> intro hb <;> try simp only [hb])))
      rw [goodB, heq, all_of hlt hbad]
      rfl
    · by_cases c7 : 7 < p.pgs[k].r
      · have hbad : pgOk p.pgs[k] = false := by unfold pgOk; rw [decide_eq_true (by omega), decide_eq_false (by omega)]; rfl
        (repeat' (first | (simp only [wp, extractV, exists_eq_left', if_true, if_false, ite_true, ite_false, reduceIte, Nat.reduceAdd, Nat.reduceLT, Nat.reduceLeDiff, Nat.reduceEqDiff, nltT hlt, hix, pgR, hf, decide_eq_false c0, decide_eq_true c7]) | (with_reducible refine Run.gC ?_ ?_ <;> intro hb <;> try simp only [hb]) | (with_reducible refine Run.gG ?_ ?_ <;> intro hb <;> try simp only [hb]) | (with_reducible refine Run.gQ ?_ ?_ <;> intro hb <;> try simp only [hb])))
        rw [goodB, heq, all_of hlt hbad]
        rfl
      · have hok : pgOk p.pgs[k] = true := by unfold pgOk; rw [decide_eq_true (by omega), decide_eq_true (by omega)]; rfl
        (repeat' (first | (simp only [wp, extractV, exists_eq_left', if_true, if_false, ite_true, ite_false, reduceIte, Nat.reduceAdd, Nat.reduceLT, Nat.reduceLeDiff, Nat.reduceEqDiff, nltT hlt, hix, pgR, hf, decide_eq_false c0, decide_eq_false c7, nadd hlt h1]) | (with_reducible refine Run.gC ?_ ?_ <;> intro hb <;> try simp only [hb]) | (with_reducible refine Run.gG ?_ ?_ <;> intro hb <;> try simp only [hb]) | (with_reducible refine Run.gQ ?_ ?_ <;> intro hb <;> try simp only [hb])))
        exact ⟨hlt, by rw [if_neg h0n, if_neg h0n]; exact htb, by rw [hst, hok]⟩
  · have hpg : p.pgs.all pgOk = true := by rw [← hall, List.take_of_length_le (by omega)]
    (repeat' (first | (simp only [wp, extractV, exists_eq_left', if_true, if_false, ite_true, ite_false, reduceIte, Nat.reduceAdd, Nat.reduceLT, Nat.reduceLeDiff, Nat.reduceEqDiff, nltF hlt, htb, lc]) | (with_reducible refine Run.gC ?_ ?_ <;> intro hb <;> try simp only [hb]) | (with_reducible refine Run.gG ?_ ?_ <;> intro hb <;> try simp only [hb]) | (with_reducible refine Run.gQ ?_ ?_ <;> intro hb <;> try simp only [hb])))
    refine Run.loop (N := p.pts.length) (fun k s H => s = [.bool false, iV k] ∧ H.floor = 0 ∧ 0 < H.next ∧ H.blk 0 = some ⟨7, [[iV p.id, .bool p.mob, a, b, c, iV p.ev, d]]⟩ ∧ (p.pts.take k).all ptOk = true) ⟨rfl, hf, hn, htb, rfl⟩ ?_
    rintro k s H hk ⟨rfl, hf, hn, htb, hall⟩
    simp only [ferry_text_goodPart_l2]
    have h0n : ¬ (0 = H.next) := by omega
    by_cases hlt : k < p.pts.length
    · have hix := hc.idx (k := .i64) (i := k) (by rw [List.length_map]; exact hlt)
      rw [map_get hlt] at hix
      have hst := all_take (f := ptOk) hlt hall
      generalize hq : p.pts[k] = q at hix hst
      have hbad : ptOk q = false → p.pts.all ptOk = false := fun h => all_of hlt (by rw [hq]; exact h)
      have hfm := ptOk_form q
      generalize hp1 : (q.k == 1) = b1 at hfm
      generalize hp2 : (q.k == 2) = b2 at hfm
      generalize hp3 : decide (q.k < 1) = b3 at hfm
      generalize hp4 : decide (4 < q.k) = b4 at hfm
      generalize hp5 : (q.d == 1) = b5 at hfm
      generalize hp6 : (q.f == 0) = b6 at hfm
      (repeat' (first | (simp only [wp, extractV, exists_eq_left', if_true, if_false, ite_true, ite_false, reduceIte, Nat.reduceAdd, Nat.reduceLT, Nat.reduceLeDiff, Nat.reduceEqDiff, nltT hlt, hix, ptR, hf, hp1, hp2, hp3, hp4, hp5, hp6, nadd hlt h2]) | (with_reducible refine Run.gC ?_ ?_ <;> intro hb <;> try simp only [hb]) | (with_reducible refine Run.gG ?_ ?_ <;> intro hb <;> try simp only [hb]) | (with_reducible refine Run.gQ ?_ ?_ <;> intro hb <;> try simp only [hb])))
      all_goals (first
        | (have hb' : ptOk q = false := by (rw [hfm]; simp_all; done)
           rw [goodB, heq, hpg, hbad hb']; rfl)
        | (have hok : ptOk q = true := by (rw [hfm]; simp_all; done)
           exact ⟨hlt, by rw [if_neg h0n, if_neg h0n]; exact htb, by rw [hst, hok]⟩))
    · have hpt : p.pts.all ptOk = true := by rw [← hall, List.take_of_length_le (by omega)]
      (repeat' (first | (simp only [wp, extractV, exists_eq_left', if_true, if_false, ite_true, ite_false, reduceIte, Nat.reduceAdd, Nat.reduceLT, Nat.reduceLeDiff, Nat.reduceEqDiff, nltF hlt]) | (with_reducible refine Run.gC ?_ ?_ <;> intro hb <;> try simp only [hb]) | (with_reducible refine Run.gG ?_ ?_ <;> intro hb <;> try simp only [hb]) | (with_reducible refine Run.gQ ?_ ?_ <;> intro hb <;> try simp only [hb])))
      rw [goodB, heq, hpg, hpt]
      rfl
end Go.Fv.Tr
