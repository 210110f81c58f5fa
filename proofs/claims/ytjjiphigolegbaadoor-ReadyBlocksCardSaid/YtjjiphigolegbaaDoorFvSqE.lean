/-
  The plain moves of a table: what each leaves in form. By an AI agent; no person has read it.
-/
import Derived.Test.YtjjiphigolegbaaDoorFvSqD
set_option linter.unusedVariables false
set_option linter.unusedSimpArgs false
set_option linter.unusedSectionVars false
/-! The plain moves of a table: what each leaves in form. -/
namespace Go.Fv.Tr
open Go Go.Fv Go.Fv.Pl Go.Proofs
set_option linter.unusedSimpArgs false
set_option linter.unusedVariables false

theorem TabOk_put {t : Tab} (h : TabOk t) {n : Int} {p : Pr} {f : Pr → Pr} (hp : at? t.ps n = some p) {q' : List Int} {ts' : List Tm}
    (hts : TsOk t.ps.length ts') (hrow : RowOk ts' n (f p)) (htm : ∀ m, m ≠ n → (timed ts' m ↔ timed t.ts m)) (hq : ∀ m, m ≠ n → (m ∈ q' ↔ m ∈ t.q)) (hqn : n ∈ q' ↔ (f p).state = 1) (hnd : q'.Nodup) :
    TabOk ⟨setP t.ps n f, q', ts'⟩ := by
  have h0 := (at?_lt hp).1
  have hat : ∀ m, at? (setP t.ps n f) m = if m = n then some (f p) else at? t.ps m := fun m => by
    rw [at?_set h0]
    by_cases e : m = n
    · subst e; simp [hp]
    · simp [e]
  refine TabOk_of (by simp only [setP_len]; exact h.few) (by simp only [setP_len]; exact hts) (fun m q hq' => ?_) ⟨fun m hm => ?_, hnd, fun i hi hr => ?_⟩
  · simp only at hq' ⊢
    rw [hat] at hq'
    by_cases e : m = n
    · subst e; rw [if_pos rfl] at hq'; cases hq'; exact hrow
    · rw [if_neg e] at hq'
      have := h.at hq'
      exact ⟨this.1, fun g => this.2.1 ((htm m e).1 g), fun g => this.2.2 fun g' => g ((htm m e).2 g')⟩
  · unfold isReady
    simp only at hm ⊢
    rw [hat]
    by_cases e : m = n
    · subst e; rw [if_pos rfl]; simp [hqn.1 hm]
    · rw [if_neg e]; exact h.q.1 m ((hq m e).1 hm)
  · simp only at hi hr ⊢
    rw [setP_len] at hi
    unfold isReady at hr
    rw [hat] at hr
    by_cases e : ((i : Nat) : Int) = n
    · rw [if_pos e] at hr; rw [e]; exact hqn.2 (by simpa using hr)
    · rw [if_neg e] at hr; exact (hq _ e).2 (h.q.2.2 i hi hr)

theorem not_timed {t : Tab} (h : TabOk t) {n : Int} {p : Pr} (hp : at? t.ps n = some p) (hs : p.state ≠ 2) : ¬ timed t.ts n := fun g => hs ((h.at hp).2.1 g)
theorem mem_queue {t : Tab} (h : TabOk t) {n : Int} {p : Pr} (hp : at? t.ps n = some p) : n ∈ t.q ↔ p.state = 1 := by
  constructor
  · intro g
    have := h.q.1 n g
    unfold isReady at this
    rw [hp] at this
    simpa using this
  · intro g
    have h0 := at?_lt hp
    have := h.q.2.2 n.toNat (by omega)
    rw [Int.toNat_of_nonneg h0.1] at this
    exact this (by unfold isReady; rw [hp]; simp [g])
theorem no_wait {t : Tab} (h : TabOk t) {n : Int} {p : Pr} (hp : at? t.ps n = some p) (hs : p.state ≠ 2) : p.wait = 0 ∧ p.obj = 0 := by
  obtain ⟨g1, g2, g3, g4, g5, g6, g7⟩ := (h.at hp).1
  have hw : p.wait = 0 := Decidable.byContradiction fun e => hs (g5.1 e)
  exact ⟨hw, by omega⟩

theorem timed_perm {l m : List Tm} (h : l.Perm m) (n : Int) : timed l n ↔ timed m n := by
  unfold timed
  exact (h.map Tm.proc).mem_iff
theorem timed_app {l m : List Tm} {n : Int} : timed (l ++ m) n ↔ timed l n ∨ timed m n := by
  unfold timed; rw [List.map_append, List.mem_append]
theorem timed_one {a : Tm} {n : Int} : timed [a] n ↔ n = a.proc := by unfold timed; simp
theorem wo_eq (ts : List Tm) (p : Int) : wo ts p = ts.filter (·.proc ≠ p) := by
  unfold wo
  exact List.filter_congr fun a _ => by simp
theorem timed_set {ts : List Tm} {n d m : Int} : timed (setT ts n d) m ↔ m = n ∨ timed ts m := by
  unfold setT
  rw [timed_perm (isort_perm _), timed_app, timed_one, wo_eq, timed_filter]
  simp only
  constructor
  · rintro (⟨h, _⟩ | h)
    · exact .inr h
    · exact .inl h
  · rintro (h | h)
    · exact .inr h
    · by_cases e : m = n
      · exact .inr e
      · exact .inl ⟨h, e⟩
theorem setT_ok {k : Int} {ts : List Tm} (h : TsOk k ts) {n d : Int} (hr : right k ⟨n, d⟩) : TsOk k (setT ts n d) := by
  refine isort_ok (fun t ht => ?_) ?_
  · rcases List.mem_append.1 ht with g | g
    · exact h.mem t (List.mem_filter.1 g).1
    · rw [List.mem_singleton] at g; subst g; exact hr
  · rw [List.map_append, List.nodup_append]
    refine ⟨(h.filter _).nodup, by simp, fun a ha b hb => ?_⟩
    simp only [List.map_cons, List.map_nil, List.mem_singleton] at hb
    subst hb
    obtain ⟨x, hx, rfl⟩ := List.mem_map.1 ha
    have := (List.mem_filter.1 hx).2
    simpa using this
theorem wo_no {ts : List Tm} {n : Int} (h : ¬ timed ts n) : wo ts n = ts := by
  unfold wo
  refine List.filter_eq_self.2 fun a ha => ?_
  simp only [Bool.not_eq_true', decide_eq_false_iff_not]
  exact fun e => h (List.mem_map.2 ⟨a, ha, e⟩)
/-- Setting a timer and taking it away again. -/
theorem setT_wo {k : Int} {ts : List Tm} (h : TsOk k ts) {n d : Int} (hn : ¬ timed ts n) (hr : right k ⟨n, d⟩) : (setT ts n d).filter (·.proc ≠ n) = ts := by
  refine sorted_eq ((setT_ok h hr).filter _).pairwise h.pairwise ?_
  have h1 : ((setT ts n d).filter (·.proc ≠ n)).Perm ((wo ts n ++ [(⟨n, d⟩ : Tm)]).filter (·.proc ≠ n)) := (isort_perm _).filter _
  refine h1.trans ?_
  rw [List.filter_append, wo_no hn, ← wo_eq, wo_no hn]
  simp

/-! ### Block -/
def blockP (w o : Int) (p : Pr) : Pr := { p with state := 2, wait := w, obj := o }
def Tab.block (t : Tab) (n w o d : Int) : Tab := { ps := setP t.ps n (blockP w o), q := t.q.filter (· ≠ n), ts := if 0 ≤ d then setT t.ts n d else t.ts }
def blkOk (w o d : Int) : Prop := (1 ≤ w ∧ w ≤ 4) ∧ 0 ≤ o ∧ (w = 1 → o = 0 ∧ d ≠ -1) ∧ -1 ≤ d ∧ d ≤ 1010000
instance (w o d : Int) : Decidable (blkOk w o d) := inferInstanceAs (Decidable (_ ∧ _ ∧ (_ → _) ∧ _ ∧ _))
theorem q_out {q : List Int} {n m : Int} (h : m ≠ n) : m ∈ q.filter (· ≠ n) ↔ m ∈ q := by simp [List.mem_filter, h]
theorem q_outn {q : List Int} {n : Int} : n ∉ q.filter (· ≠ n) := by simp [List.mem_filter]
theorem right_at {t : Tab} {n : Int} {p : Pr} (hp : at? t.ps n = some p) {d : Int} (h0 : 0 ≤ d) (h1 : d ≤ 1010000) : right t.ps.length ⟨n, d⟩ := ⟨(at?_lt hp).1, (at?_lt hp).2, h0, h1⟩
theorem TabOk.block {t : Tab} (h : TabOk t) {n w o d : Int} {p : Pr} (hp : at? t.ps n = some p) (hs : p.state = 1) (hb : blkOk w o d) : TabOk (Tab.block t n w o d) := by
  obtain ⟨b1, b2, b3, b4, b5⟩ := hb
  obtain ⟨g1, g2, g3, g4, g5, g6, g7⟩ := (h.at hp).1
  have hn := not_timed h hp (by omega)
  refine TabOk_put (f := blockP w o) h hp ?_ ⟨⟨g1, by simp [blockP], g3, by simp only [blockP]; omega, by simp only [blockP]; simp; omega, b2, ?_⟩, fun _ => rfl, fun ht => ?_⟩ (fun m hm => ?_) (fun m hm => q_out hm) ⟨fun g => (q_outn g).elim, fun g => by simp [blockP] at g⟩ (h.q.2.1.sublist List.filter_sublist)
  · by_cases hd : 0 ≤ d
    · rw [if_pos hd]; exact setT_ok h.ts (right_at hp hd b5)
    · rw [if_neg hd]; exact h.ts
  · simp only [blockP]; omega
  · simp only [blockP]
    intro hw
    have := b3 hw
    rw [if_pos (by omega)] at ht
    exact ht (timed_set.2 (.inl rfl))
  · by_cases hd : 0 ≤ d
    · rw [if_pos hd, timed_set]; exact ⟨fun g => g.resolve_left hm, .inr⟩
    · rw [if_neg hd]

/-- The process's register 1 alone. -/
def regP (r1 : Int) (p : Pr) : Pr := { p with regs := p.regs.set 1 r1 }
theorem setP_setP {ps : List Pr} {n : Int} {f g : Pr → Pr} : setP (setP ps n f) n g = setP ps n (fun p => g (f p)) := by
  unfold setP
  refine List.ext_getElem? fun i => ?_
  simp only [List.getElem?_modify]
  by_cases e : n.toNat = i
  · cases ps[i]? <;> simp [e]
  · cases ps[i]? <;> simp [e]
theorem setP_congr {ps : List Pr} {n : Int} {p : Pr} {f g : Pr → Pr} (hp : at? ps n = some p) (h : f p = g p) : setP ps n f = setP ps n g := by
  have h0 := at?_some.1 hp
  unfold setP
  refine List.ext_getElem? fun i => ?_
  simp only [List.getElem?_modify]
  by_cases e : n.toNat = i
  · rw [← e, h0.2]; simp [h]
  · simp [e]
/-- Who blocks and is woken stands where a yield would have put it. -/
theorem block_wake {t : Tab} (h : TabOk t) {n w o d : Int} {p : Pr} (hp : at? t.ps n = some p) (hs : p.state = 1) (hb : blkOk w o d) (r1 : Int) :
    (Tab.block t n w o d).wake n r1 = { (t.yield n) with ps := setP t.ps n (regP r1) } := by
  have hw := no_wait h hp (by omega)
  have e1 : setP (setP t.ps n (blockP w o)) n (wakeP r1) = setP t.ps n (regP r1) := by
    rw [setP_setP]
    refine setP_congr hp ?_
    simp only [blockP, wakeP, regP]
    rw [hw.1, hw.2, hs]
  have e2 : (if 0 ≤ d then setT t.ts n d else t.ts).filter (·.proc ≠ n) = t.ts := by
    have hn := not_timed h hp (by omega)
    by_cases hd : 0 ≤ d
    · rw [if_pos hd]; exact setT_wo h.ts hn (right_at hp hd hb.2.2.2.2)
    · rw [if_neg hd, ← wo_eq, wo_no hn]
  simp only [Tab.wake, Tab.block, Tab.yield, Pl.yield, e1, e2]

/-! ### Halt, Start, Rank -/
def haltP (s : Int) (p : Pr) : Pr := { p with state := s }
def Tab.halt (t : Tab) (n s : Int) : Tab := { ps := setP t.ps n (haltP s), q := t.q.filter (· ≠ n), ts := t.ts }
theorem TabOk.halt {t : Tab} (h : TabOk t) {n s : Int} {p : Pr} (hp : at? t.ps n = some p) (hs : p.state = 1) (hb : s = 0 ∨ s = 3) : TabOk (Tab.halt t n s) := by
  obtain ⟨g1, g2, g3, g4, g5, g6, g7⟩ := (h.at hp).1
  have hn := not_timed h hp (by omega)
  have hw := no_wait h hp (by omega)
  refine TabOk_put (f := haltP s) h hp h.ts ⟨⟨g1, by simp only [haltP]; omega, g3, g4, by simp only [haltP]; omega, g6, g7⟩, fun g => (hn g).elim, fun _ => by simp only [haltP]; omega⟩ (fun m hm => Iff.rfl) (fun m hm => q_out hm) ⟨fun g => (q_outn g).elim, fun g => by simp only [haltP] at g; omega⟩ (h.q.2.1.sublist List.filter_sublist)
def startP (e pr : Int) : Pr := ⟨List.replicate 16 0, e, 1, pr, 0, 0⟩
def Tab.start (t : Tab) (n e pr : Int) : Tab := { ps := setP t.ps n (fun _ => startP e pr), q := t.q ++ [n], ts := t.ts }
theorem TabOk.start {t : Tab} (h : TabOk t) {n e pr : Int} {p : Pr} (hp : at? t.ps n = some p) (hs : p.state = 0 ∨ p.state = 3) (hb : 0 ≤ pr ∧ pr ≤ 255) : TabOk (Tab.start t n e pr) := by
  have hn := not_timed h hp (by omega)
  have hq := mem_queue h hp
  have hnq : n ∉ t.q := fun g => by have := hq.1 g; omega
  refine TabOk_put (f := fun _ => startP e pr) h hp h.ts ⟨⟨rfl, by simp [startP], hb, by simp [startP], by simp [startP], by simp [startP], .inl rfl⟩, fun g => (hn g).elim, fun _ => by simp [startP]⟩ (fun m hm => Iff.rfl) (fun m hm => by simp [hm]) ⟨fun _ => rfl, fun _ => by simp⟩ ?_
  rw [List.nodup_append]
  exact ⟨h.q.2.1, by simp, fun a ha b hb e => by rw [List.mem_singleton] at hb; subst hb; subst e; exact hnq ha⟩
def rankP (pr : Int) (p : Pr) : Pr := { p with prio := pr }
def Tab.rank (t : Tab) (n pr : Int) : Tab := { ps := setP t.ps n (rankP pr), q := t.q, ts := t.ts }
theorem TabOk.rank {t : Tab} (h : TabOk t) {n pr : Int} {p : Pr} (hp : at? t.ps n = some p) (hb : 0 ≤ pr ∧ pr ≤ 255) : TabOk (Tab.rank t n pr) := by
  have := h.at hp
  obtain ⟨g1, g2, g3, g4, g5, g6, g7⟩ := this.1
  exact TabOk_put (f := rankP pr) h hp h.ts ⟨⟨g1, g2, hb, g4, g5, g6, g7⟩, this.2.1, this.2.2⟩ (fun m hm => Iff.rfl) (fun m hm => Iff.rfl) (mem_queue (p := p) h hp) h.q.2.1
/-- A timer goes to its place: the first ahead of which it stands. -/
def insT (x : Tm) : List Tm → List Tm
  | [] => [x]
  | a :: l => if before x a then x :: a :: l else a :: insT x l
theorem insT_perm (x : Tm) : ∀ l, (insT x l).Perm (l ++ [x])
  | [] => .refl _
  | a :: l => by
    unfold insT
    split
    · exact (List.perm_append_comm (l₁ := [x]) (l₂ := a :: l))
    · exact (insT_perm x l).cons a
theorem insT_sorted {x : Tm} : ∀ {l : List Tm}, l.Pairwise before → (∀ a ∈ l, a.proc ≠ x.proc) → (insT x l).Pairwise before
  | [], _, _ => by simp [insT]
  | a :: l, h, hn => by
    unfold insT
    split
    · rename_i hb
      refine List.pairwise_cons.2 ⟨fun b hm => ?_, h⟩
      rcases List.mem_cons.1 hm with rfl | hm
      · exact hb
      · exact hb.trans ((List.pairwise_cons.1 h).1 b hm)
    · rename_i hb
      have hab := (before_total (hn a (by simp))).resolve_right hb
      refine List.pairwise_cons.2 ⟨fun b hm => ?_, insT_sorted (List.pairwise_cons.1 h).2 fun b hm => hn b (by simp [hm])⟩
      rcases List.mem_append.1 ((insT_perm x l).mem_iff.1 hm) with g | g
      · exact (List.pairwise_cons.1 h).1 b g
      · rw [List.mem_singleton] at g; subst g; exact hab
theorem insT_set {k : Int} {ts : List Tm} (h : TsOk k ts) {n d : Int} (hn : ¬ timed ts n) (hr : right k ⟨n, d⟩) : insT ⟨n, d⟩ ts = setT ts n d := by
  refine sorted_eq (insT_sorted h.pairwise fun a ha e => hn (List.mem_map.2 ⟨a, ha, e⟩)) (setT_ok h hr).pairwise ?_
  refine (insT_perm _ _).trans ?_
  unfold setT
  rw [wo_no hn]
  exact (isort_perm _).symm
end Go.Fv.Tr
