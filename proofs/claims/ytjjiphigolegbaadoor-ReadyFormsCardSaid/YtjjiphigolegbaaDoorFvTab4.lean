/-
  Waking, one or many; firing. By an AI agent; no person has read it.
-/
import Derived.Test.YtjjiphigolegbaaDoorFvTab5
set_option linter.unusedVariables false
set_option linter.unusedSimpArgs false
set_option linter.unusedSectionVars false
/-! Waking, one or many; firing. -/
namespace Go.Fv.Pl

def wakeP (r1 : Int) (p : Pr) : Pr := { p with regs := p.regs.set 1 r1, state := 1, wait := 0, obj := 0 }
def setP (ps : List Pr) (n : Int) (f : Pr → Pr) : List Pr := ps.modify n.toNat f
def Tab.wake (t : Tab) (n : Int) (r1 : Int) : Tab := { ps := setP t.ps n (wakeP r1), q := t.q ++ [n], ts := t.ts.filter (·.proc ≠ n) }

theorem at?_set {ps : List Pr} {n m : Int} {f : Pr → Pr} (hn : 0 ≤ n) : at? (setP ps n f) m = if m = n then (at? ps m).map f else at? ps m := by
  unfold at? setP
  by_cases hm : 0 ≤ m
  · simp only [hm, if_true, List.getElem?_modify]
    by_cases e : m = n
    · subst e; simp
    · have : n.toNat ≠ m.toNat := by omega
      rw [if_neg e]; simp [this]
  · simp only [hm, if_false]
    by_cases e : m = n
    · subst e; exact absurd hn hm
    · rw [if_neg e]
theorem setP_len (ps : List Pr) (n : Int) (f : Pr → Pr) : (setP ps n f).length = ps.length := by simp [setP]

theorem TsOk.filter {n : Int} {l : List Tm} (h : TsOk n l) (f : Tm → Bool) : TsOk n (l.filter f) := by
  rw [TsOk_iff] at h ⊢
  exact ⟨fun t ht => h.1 t (List.mem_filter.1 ht).1, List.Nodup.sublist (List.filter_sublist.map _) h.2.1, List.Pairwise.sublist List.filter_sublist h.2.2⟩
theorem timed_filter {l : List Tm} {n m : Int} : timed (l.filter (·.proc ≠ n)) m ↔ timed l m ∧ m ≠ n := by
  unfold timed
  simp only [List.mem_map, List.mem_filter, decide_eq_true_eq]
  constructor
  · rintro ⟨a, ⟨h1, h2⟩, rfl⟩; exact ⟨⟨a, h1, rfl⟩, h2⟩
  · rintro ⟨⟨a, h1, rfl⟩, h2⟩; exact ⟨a, ⟨h1, h2⟩, rfl⟩

theorem TabOk.at {t : Tab} (h : TabOk t) {n : Int} {p : Pr} (hp : at? t.ps n = some p) : RowOk t.ts n p := by
  obtain ⟨h0, h1⟩ := at?_some.1 hp
  have := h.ps n.toNat p h1
  rwa [show ((n.toNat : Nat) : Int) = n by omega] at this
theorem TabOk_of {t : Tab} (few : t.ps.length ≤ 8) (ts : TsOk t.ps.length t.ts) (ps : ∀ n p, at? t.ps n = some p → RowOk t.ts n p) (q : QOk t.ps t.q) : TabOk t :=
  ⟨few, ts, fun i p hp => ps i p (by rw [at?_nat]; exact hp), q⟩

theorem wakeP_ok {r1 : Int} {p : Pr} (h : PrOk p) : PrOk (wakeP r1 p) := by
  obtain ⟨g1, g2, g3, g4, g5, g6, g7⟩ := h
  refine ⟨?_, by simp [wakeP], g3, by simp [wakeP], by simp [wakeP], by simp [wakeP], .inl rfl⟩
  simp only [wakeP, List.getElem?_set]
  simpa using g1

theorem TabOk.wake {t : Tab} (h : TabOk t) {n : Int} {p : Pr} (hp : at? t.ps n = some p) (hs : p.state = 2) (r1 : Int) : TabOk (t.wake n r1) := by
  have h0 := (at?_lt hp).1
  have hnq : n ∉ t.q := fun hm => by
    have := h.q.1 n hm
    unfold isReady at this
    rw [hp] at this
    simp [hs] at this
  refine TabOk_of (by rw [Tab.wake, setP_len]; exact h.few) (by rw [Tab.wake, setP_len]; exact h.ts.filter _) (fun m q hq => ?_) ⟨fun m hm => ?_, ?_, fun i hi hr => ?_⟩
  · simp only [Tab.wake] at hq ⊢
    rw [at?_set h0] at hq
    by_cases e : m = n
    · subst e
      rw [if_pos rfl, hp] at hq
      cases hq
      exact ⟨wakeP_ok (h.at hp).1, fun ht => absurd rfl (timed_filter.1 ht).2, fun _ => by simp [wakeP]⟩
    · rw [if_neg e] at hq
      have := h.at hq
      refine ⟨this.1, fun ht => this.2.1 (timed_filter.1 ht).1, fun ht => this.2.2 fun g => ht (timed_filter.2 ⟨g, e⟩)⟩
  · simp only [Tab.wake] at hm ⊢
    unfold isReady
    rw [at?_set h0]
    rcases List.mem_append.1 hm with g | g
    · rw [if_neg (by rintro rfl; exact hnq g)]
      exact h.q.1 m g
    · rw [List.mem_singleton] at g
      subst g
      rw [if_pos rfl, hp]
      rfl
  · simp only [Tab.wake]
    rw [List.nodup_append]
    refine ⟨h.q.2.1, by simp, fun a ha b hb => ?_⟩
    rw [List.mem_singleton] at hb
    subst hb
    rintro rfl
    exact hnq ha
  · simp only [Tab.wake] at hi hr ⊢
    rw [setP_len] at hi
    by_cases e : ((i : Nat) : Int) = n
    · exact List.mem_append.2 (.inr (by simp [e]))
    · refine List.mem_append.2 (.inl (h.q.2.2 i hi ?_))
      unfold isReady at hr ⊢
      rwa [at?_set h0, if_neg e] at hr

/-- Many, one behind the other: each as 'r' says. -/
def Tab.wakes (t : Tab) (r : Pr → Int) : List Int → Tab
  | [] => t
  | n :: l => (t.wake n (((at? t.ps n).map r).getD 0)).wakes r l
theorem wakes_append (r : Pr → Int) : ∀ (l m : List Int) (t : Tab), t.wakes r (l ++ m) = (t.wakes r l).wakes r m
  | [], m, t => rfl
  | n :: l, m, t => wakes_append r l m _
theorem wakes_at {r : Pr → Int} : ∀ {l : List Int} {t : Tab} {m : Int}, (∀ n ∈ l, 0 ≤ n) → m ∉ l → at? (t.wakes r l).ps m = at? t.ps m
  | [], t, m, _, _ => rfl
  | n :: l, t, m, h0, h => by
    have : m ≠ n := fun e => h (by simp [e])
    rw [Tab.wakes, wakes_at (fun a ha => h0 a (by simp [ha])) (fun g => h (by simp [g]))]
    rw [Tab.wake, at?_set (h0 n (by simp)), if_neg this]
theorem wakes_ts {r : Pr → Int} : ∀ {l : List Int} {t : Tab}, (t.wakes r l).ts = t.ts.filter (·.proc ∉ l)
  | [], t => by simp [Tab.wakes]; exact (List.filter_eq_self.2 fun _ _ => rfl).symm
  | n :: l, t => by
    rw [Tab.wakes, wakes_ts, Tab.wake, List.filter_filter]
    congr 1
    funext x
    simp only [ne_eq, decide_not, List.mem_cons, not_or, Bool.decide_and]
    rw [Bool.and_comm]
theorem wakes_len {r : Pr → Int} : ∀ {l : List Int} {t : Tab}, (t.wakes r l).ps.length = t.ps.length
  | [], t => rfl
  | n :: l, t => by rw [Tab.wakes, wakes_len, Tab.wake, setP_len]
theorem TabOk.wakes {r : Pr → Int} : ∀ {l : List Int} {t : Tab}, TabOk t → l.Nodup → (∀ n ∈ l, (at? t.ps n).map Pr.state = some 2) → TabOk (t.wakes r l)
  | [], t, h, _, _ => h
  | n :: l, t, h, hn, hs => by
    obtain ⟨p, hp, hs2⟩ := Option.map_eq_some_iff.1 (hs n (by simp))
    refine (h.wake hp hs2 _).wakes (List.nodup_cons.1 hn).2 fun m hm => ?_
    have : m ≠ n := by rintro rfl; exact (List.nodup_cons.1 hn).1 hm
    rw [Tab.wake, at?_set (at?_lt hp).1, if_neg this]
    exact hs m (by simp [hm])

theorem nodup_inj {α β : Type} {f : α → β} : ∀ {l : List α} {a b : α}, (l.map f).Nodup → a ∈ l → b ∈ l → f a = f b → a = b
  | c :: l, a, b, hn, ha, hb, e => by
    rw [List.map_cons, List.nodup_cons] at hn
    rcases List.mem_cons.1 ha with e1 | h1
    · rcases List.mem_cons.1 hb with e2 | h2
      · rw [e1, e2]
      · exact absurd (List.mem_map.2 ⟨b, h2, by rw [← e, e1]⟩) hn.1
    · rcases List.mem_cons.1 hb with e2 | h2
      · exact absurd (List.mem_map.2 ⟨a, h1, by rw [e, e2]⟩) hn.1
      · exact nodup_inj hn.2 h1 h2 e

/-- Who is due. -/
def dues (ts : List Tm) (now : Int) : List Int := (ts.filter (·.due ≤ now)).map Tm.proc
def lateOf (p : Pr) : Int := if p.wait = 1 then 0 else 4294967294
def Tab.fire (t : Tab) (now : Int) : Tab := t.wakes lateOf (dues t.ts now)
theorem dues_nodup {n : Int} {ts : List Tm} (h : TsOk n ts) (now : Int) : (dues ts now).Nodup := (h.filter _).nodup
theorem dues_wait {t : Tab} (h : TabOk t) (now : Int) : ∀ n ∈ dues t.ts now, (at? t.ps n).map Pr.state = some 2 := by
  intro n hn
  obtain ⟨x, hx, rfl⟩ := List.mem_map.1 hn
  have hx := (List.mem_filter.1 hx).1
  have hr := h.ts.mem x hx
  have e : at? t.ps x.proc = some (t.ps[x.proc.toNat]'(by have := hr.1; have := hr.2.1; omega)) := at?_some.2 ⟨hr.1, List.getElem?_eq_getElem _⟩
  rw [e]
  have := (h.at e).2.1 (List.mem_map.2 ⟨x, hx, rfl⟩)
  simp [this]
theorem TabOk.fire {t : Tab} (h : TabOk t) (now : Int) : TabOk (t.fire now) := h.wakes (dues_nodup h.ts now) (dues_wait h now)
theorem fire_ts {t : Tab} (h : TabOk t) (now : Int) : (t.fire now).ts = t.ts.filter (fun x => now < x.due) := by
  rw [Tab.fire, wakes_ts]
  refine List.filter_congr fun x hx => ?_
  have hn := h.ts.nodup
  have : x.proc ∈ dues t.ts now ↔ x.due ≤ now := by
    constructor
    · intro hm
      obtain ⟨y, hy, he⟩ := List.mem_map.1 hm
      have hy' := List.mem_filter.1 hy
      have : y = x := nodup_inj hn hy'.1 hx he
      subst this
      simpa using hy'.2
    · intro hd
      exact List.mem_map.2 ⟨x, List.mem_filter.2 ⟨hx, by simpa using hd⟩, rfl⟩
  by_cases hd : x.due ≤ now
  · simp [this, hd]
  · have : now < x.due := by omega
    simp [*]
theorem filter_split {l : List Tm} (h : l.Pairwise before) {now later : Int} (hle : now ≤ later) :
    l.filter (·.due ≤ later) = l.filter (·.due ≤ now) ++ (l.filter (fun x => now < x.due)).filter (·.due ≤ later) := by
  induction l with
  | nil => rfl
  | cons a l ih =>
    have ih := ih (List.pairwise_cons.1 h).2
    by_cases h1 : a.due ≤ now
    · rw [List.filter_cons_of_pos (by simp; omega), List.filter_cons_of_pos (by simpa using h1), List.filter_cons_of_neg (by simp; omega), ih, List.cons_append]
    · have all : ∀ b ∈ l, ¬ b.due ≤ now := fun b hb => by
        have := (List.pairwise_cons.1 h).1 b hb
        unfold before at this
        omega
      have e1 : (a :: l).filter (·.due ≤ now) = [] := List.filter_eq_nil_iff.2 fun b hb => by
        rcases List.mem_cons.1 hb with rfl | hb
        · simpa using h1
        · simpa using all b hb
      have e2 : (a :: l).filter (fun x => now < x.due) = a :: l := List.filter_eq_self.2 fun b hb => by
        rcases List.mem_cons.1 hb with rfl | hb
        · simp; omega
        · have := all b hb; simp; omega
      rw [e1, e2, List.nil_append]
theorem fire_fire {t : Tab} (h : TabOk t) {now later : Int} (hle : now ≤ later) : dues t.ts later = dues t.ts now ++ dues (t.fire now).ts later ∧ (t.fire now).fire later = t.fire later := by
  have e : dues t.ts later = dues t.ts now ++ dues (t.fire now).ts later := by
    rw [fire_ts h]
    unfold dues
    rw [filter_split h.ts.pairwise hle, List.map_append]
  refine ⟨e, ?_⟩
  conv => rhs; rw [Tab.fire, e, wakes_append]
  rfl
end Go.Fv.Pl
