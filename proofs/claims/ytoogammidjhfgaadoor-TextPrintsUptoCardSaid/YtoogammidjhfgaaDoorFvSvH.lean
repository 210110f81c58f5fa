/-
  How long a script's text is, by what comes in. By an AI agent; no person has read it.
-/
import Derived.Test.YtoogammidjhfgaaDoorFvSvF
import Derived.Test.YtoogammidjhfgaaDoorFvBulk
set_option linter.unusedVariables false
set_option linter.unusedSimpArgs false
set_option linter.unusedSectionVars false
/-! How long a script's text is, by what comes in. -/
namespace Go.Fv.Tr
open Go Go.Fv Go.Proofs
set_option linter.unusedSimpArgs false
set_option linter.unusedVariables false

def pgsB (l : List Pg) : Nat := (l.map fun g => g.s.size + 1).sum
def insB (l : List In) : Nat := (l.map fun n => n.d.size + 1).sum
def plB (p : Pl) : Nat := pgsB p.pgs + p.prs.length + p.pts.length + p.sems.length
def plsB (l : List Pl) : Nat := (l.map fun p => plB p + 1).sum
/-- What of a script comes in. -/
def scB (s : Sc) : Nat := plsB s.parts + s.homes.length + s.wins.length + s.links.length + insB s.ins + s.ops.length

theorem _root_.Go.Fv.Sls.bulk {x : V} {sz : Nat} {rows : List (List V)} (h : Sls x sz rows) : Fv.bulk x = bulkR rows := by
  rcases h with rfl | ⟨rfl, rfl | rfl⟩ <;> simp [Fv.bulk, bulkR]
theorem bulkR_map {α : Type} (f : α → List V) : ∀ l : List α, bulkR (l.map f) = (l.map fun a => bulkL (f a) + 1).sum
  | [] => rfl
  | a :: l => by rw [List.map_cons, bulkR, bulkR_map f l, List.map_cons, List.sum_cons]
theorem sum_ones {α : Type} (l : List α) : (l.map fun _ => 1).sum = l.length := by
  induction l with
  | nil => rfl
  | cons a l ih => rw [List.map_cons, List.sum_cons, ih, List.length_cons]; omega
theorem bulk_flat {α : Type} {f : α → List V} (hf : ∀ a, bulkL (f a) = 0) {x : V} {sz : Nat} {l : List α} (h : Sls x sz (l.map f)) : Fv.bulk x = l.length := by
  rw [h.bulk, bulkR_map, ← sum_ones l]
  congr 1
  exact List.map_congr_left fun a _ => by rw [hf]
theorem bulk_pgs {x : V} {l : List Pg} (h : Sls x 2 (l.map pgR)) : Fv.bulk x = pgsB l := by
  rw [h.bulk, bulkR_map]
  congr 1
  exact List.map_congr_left fun g _ => by simp [pgR, bulkL, Fv.bulk, iV]
theorem bulk_ins {x : V} {l : List In} (h : Sls x 4 (l.map inpR)) : Fv.bulk x = insB l := by
  rw [h.bulk, bulkR_map]
  congr 1
  exact List.map_congr_left fun g _ => by simp [inpR, bulkL, Fv.bulk, iV]
theorem bulk_row {row : List V} {p : Pl} (h : PlS row p) : bulkL row = plB p := by
  obtain ⟨a, b, c, d, rfl, ha, hb, hc, hd⟩ := h
  have e1 := bulk_pgs ha
  have e2 := bulk_flat (f := pcR) (fun _ => rfl) hb
  have e3 := bulk_flat (f := ptR) (fun _ => rfl) hc
  have e4 := bulk_flat (f := iR) (fun _ => rfl) hd
  simp only [bulkL, e1, e2, e3, e4, plB]
  simp only [Fv.bulk, iV]
  omega
theorem bulk_rows : ∀ (rows : List (List V)) (ps : List Pl) (e : rows.length = ps.length), (∀ (j : Nat) (hj : j < rows.length), PlS rows[j] (ps[j]'(by rw [← e]; exact hj))) → bulkR rows = plsB ps
  | [], [], _, _ => rfl
  | [], _ :: _, e, _ => by simp at e
  | _ :: _, [], e, _ => by simp at e
  | r :: rows, p :: ps, e, h => by
    have h0 := bulk_row (h 0 (by simp))
    have h1 := bulk_rows rows ps (by simpa using e) fun j hj => h (j + 1) (by simpa using hj)
    simp only [List.getElem_cons_zero] at h0
    rw [bulkR, h0, h1]
    simp [plsB]
theorem bulk_sc {l : List V} {s : Sc} {ps hs ws ks is os : V} {rows : List (List V)} (h : ScS l s ps hs ws ks is os rows) : Fv.bulk (.agg l) = scB s := by
  obtain ⟨rfl, hp, hh, hw, hk, hi, ho, hl, hrow, _, _⟩ := h
  have e0 := hp.bulk.trans (bulk_rows rows s.parts hl hrow)
  have e1 := bulk_flat (f := iR) (fun _ => rfl) hh
  have e2 := bulk_flat (f := wnR) (fun _ => rfl) hw
  have e3 := bulk_flat (f := q4R) (fun _ => rfl) hk
  have e4 := bulk_ins hi
  have e5 := bulk_flat (f := q4R) (fun _ => rfl) ho
  simp only [Fv.bulk, bulkL, iV, e0, e1, e2, e3, e4, e5, scB]
  omega

/-! ### How long a text is -/
theorem sum_mem {α : Type} {f : α → Nat} {l : List α} {a : α} (h : a ∈ l) : f a ≤ (l.map f).sum := by
  induction l with
  | nil => cases h
  | cons b l ih =>
    rw [List.map_cons, List.sum_cons]
    rcases List.mem_cons.1 h with rfl | h
    · omega
    · have := ih h; omega
theorem sum_len {α : Type} (f : α → Nat) (l : List α) : l.length ≤ (l.map fun a => f a + 1).sum := by
  induction l with
  | nil => simp
  | cons b l ih => rw [List.map_cons, List.sum_cons, List.length_cons]; omega
theorem docL_sum {α : Type} {f : α → List UInt8} {g : α → Nat} {C : Nat} {l : List α} (h : ∀ a ∈ l, (f a).length + 1 ≤ C * g a) : (docL (l.map f)).length ≤ C * (l.map g).sum := by
  induction l with
  | nil => simp [docL]
  | cons a l ih =>
    have h1 := h a (by simp)
    have h2 := ih fun b hb => h b (by simp [hb])
    rw [List.map_cons, List.map_cons, List.sum_cons, Nat.mul_add]
    have : docL (f a :: l.map f) = docL [f a] ++ docL (l.map f) := docL_app [f a] _
    rw [this, docL_one, List.length_append, List.length_append, nl_len]
    omega
theorem docL_flat {α : Type} {f : α → List (List UInt8)} {g : α → Nat} {C : Nat} {l : List α} (h : ∀ a ∈ l, (docL (f a)).length ≤ C * g a) : (docL (l.flatMap f)).length ≤ C * (l.map g).sum := by
  induction l with
  | nil => simp [docL]
  | cons a l ih =>
    have h1 := h a (by simp)
    have h2 := ih fun b hb => h b (by simp [hb])
    rw [List.flatMap_cons, List.map_cons, List.sum_cons, Nat.mul_add, docL_app, List.length_append]
    omega
theorem docL_lines : ∀ ls : List (List UInt8), ls.length ≤ (docL ls).length
  | [] => by simp [docL]
  | w :: ls => by
    have h := docL_lines ls
    have : docL (w :: ls) = docL [w] ++ docL ls := docL_app [w] _
    rw [this, docL_one, List.length_append, List.length_append, nl_len, List.length_cons]
    omega

/-- What a type says of a script's numbers. -/
structure PlW (p : Pl) : Prop where
  e : ∀ c ∈ p.prs, inR c.e ∧ inR c.p
  q : ∀ q ∈ p.pts, PtR q
  ev : inR p.ev
  sm : ∀ m ∈ p.sems, inR m
structure ScW (s : Sc) : Prop where
  t : inR s.ticks
  r : inR s.tries
  p : ∀ p ∈ s.parts, PlW p
  h : ∀ m ∈ s.homes, inR m
  w : ∀ w ∈ s.wins, inR w.p ∧ inR w.s ∧ inR w.l
  k : ∀ q ∈ s.links, Rng q
  i : ∀ n ∈ s.ins, inR n.p ∧ inR n.f ∧ inR n.q
  o : ∀ q ∈ s.ops, Rng q

theorem dataL_sz (s : ByteArray) : (dataL s.data.toList).length ≤ 2 * s.size + 1 := by
  have := dataL_len s.data.toList
  have e : s.data.toList.length = s.size := by simp
  omega
theorem chkF_none : ∀ {ps : List Pl} {nh k : Nat}, chkF nh ps k = none → (∀ p ∈ ps, p.pgs.all pgOk = true ∧ p.pts.all ptOk = true) ∧ (ps ≠ [] → k + ps.length ≤ nh)
  | [], _, _, _ => ⟨fun p hp => (by cases hp), fun h => (h rfl).elim⟩
  | p :: ps, nh, k, h => by
    rw [chkF] at h
    split at h
    · rename_i hc
      rw [Bool.and_eq_true, decide_eq_true_eq] at hc
      obtain ⟨h1, h2⟩ := chkF_none h
      have hg := hc.2
      simp only [goodB, Bool.and_eq_true] at hg
      refine ⟨fun q hq => ?_, fun _ => ?_⟩
      · rcases List.mem_cons.1 hq with rfl | hq
        · exact ⟨hg.1.2, hg.2⟩
        · exact h1 q hq
      · cases ps with
        | nil => simp; omega
        | cons q ps => have := h2 (by simp); simp only [List.length_cons] at this ⊢; omega
    · cases h
theorem chk_none {s : Sc} (h : chk s = none) : (∀ p ∈ s.parts, p.pgs.all pgOk = true ∧ p.pts.all ptOk = true) ∧ s.parts.length = s.homes.length := by
  unfold chk at h
  cases hc : chkF s.homes.length s.parts 0 with
  | some k => rw [hc] at h; cases h
  | none =>
    rw [hc] at h
    simp only at h
    split at h
    · cases h
    · rename_i hle
      obtain ⟨h1, h2⟩ := chkF_none hc
      refine ⟨h1, ?_⟩
      cases hp : s.parts with
      | nil => rw [hp] at hle; simp only [List.length_nil] at hle ⊢; omega
      | cons p ps =>
        have := h2 (by rw [hp]; simp)
        rw [hp] at this hle
        omega

theorem part_size {p : Pl} {home : Int} (hh : inR home) (hw : PlW p) (hr : ∀ g ∈ p.pgs, (rightsL g.r).length ≤ 3) : (docL (partL p home)).length ≤ 128 * (plB p + 1) := by
  have i0 := itoa_le hh
  have h0 : (lineL (partW p home)).length + 1 ≤ 64 := by
    have := congrArg List.length (line_part p home)
    simp only [List.length_append, nl_len, spc_len, s_lens.1] at this
    have hm : (if p.mob then wMob else wFix).length ≤ 6 := by cases p.mob <;> decide
    omega
  have h1 : (docL (p.pgs.map fun g => lineL (pageW g))).length ≤ 128 * pgsB p.pgs := docL_sum (g := fun g : Pg => g.s.size + 1) fun g hg => by
    have := congrArg List.length (line_page g)
    simp only [List.length_append, nl_len, spc_len, s_lens.2.1] at this
    have := hr g hg
    have := dataL_sz g.s
    omega
  have h2 : (docL (p.prs.map fun c => lineL (procW c))).length ≤ 128 * (p.prs.map fun _ => 1).sum := docL_sum (g := fun _ : Pc => 1) fun c hc => by
    have := congrArg List.length (line_proc c)
    simp only [List.length_append, nl_len, spc_len, s_lens.2.2.1] at this
    have := itoa_le (hw.e c hc).1
    have := itoa_le (hw.e c hc).2
    have hm : (if c.a then wAuto else wIdle).length = 4 := by cases c.a <;> rfl
    omega
  have h3 : (docL (p.pts.map fun q => lineL (portW q))).length ≤ 128 * (p.pts.map fun _ => 1).sum := docL_sum (g := fun _ : Pt => 1) fun q hq => by
    have := small_line (portW_le (hw.q q hq))
    omega
  have h4 : (docL (p.sems.map fun m => lineL (semW m))).length ≤ 128 * (p.sems.map fun _ => 1).sum := docL_sum (g := fun _ : Int => 1) fun m hm => by
    have := congrArg List.length (line_sem m)
    simp only [List.length_append, nl_len, s_lens.2.2.2.2.2.2.2.2] at this
    have := itoa_le (hw.sm m hm)
    omega
  have h5 : (docL (if p.ev = 0 then [] else [lineL (evW p.ev)])).length ≤ 64 := by
    split
    · simp [docL]
    · rw [docL_one, List.length_append, nl_len]
      have := congrArg List.length (line_ev p.ev)
      simp only [List.length_append, nl_len, s_lens.2.2.2.2.2.2.2.1] at this
      have := itoa_le hw.ev
      omega
  rw [sum_ones] at h2 h3 h4
  simp only [partL, docL_app, docL_one, List.length_append, nl_len, plB]
  omega

theorem wsl_le {ws : List (List UInt8)} {b c : Nat} (h : ∀ w ∈ ws, w.length ≤ b) (hc : ws.length * (b + 1) ≤ c) : (lineL ws).length ≤ c := Nat.le_trans (lineL_len h) hc

theorem print_size {s : Sc} (hw : ScW s) (hr : ∀ p ∈ s.parts, ∀ g ∈ p.pgs, (rightsL g.r).length ≤ 3) : (docL (printL s)).length ≤ 256 * (scB s + 1) := by
  have six : ∀ w ∈ cfgW s, w.length ≤ 20 := by
    have := itoa_le hw.t
    have := itoa_le hw.r
    intro w hm
    simp only [cfgW, List.mem_cons, List.not_mem_nil, or_false] at hm
    rcases hm with rfl | rfl | rfl
    · decide
    · assumption
    · assumption
  have h0 : (lineL (cfgW s)).length ≤ 63 := wsl_le six (by simp [cfgW])
  have h1 : (docL (partsL s.parts s.homes)).length ≤ 128 * plsB s.parts := by
    have gen : ∀ (ps : List Pl) (hs : List Int), (∀ p ∈ ps, PlW p ∧ ∀ g ∈ p.pgs, (rightsL g.r).length ≤ 3) → (∀ m ∈ hs, inR m) → (docL (partsL ps hs)).length ≤ 128 * plsB ps := by
      intro ps
      induction ps with
      | nil => intro hs _ _; simp [partsL, docL]
      | cons p ps ih =>
        intro hs h1 h2
        cases hs with
        | nil => simp [partsL, docL]
        | cons m hs =>
          have e : partsL (p :: ps) (m :: hs) = partL p m ++ partsL ps hs := by simp [partsL]
          have q1 := part_size (h2 m (by simp)) (h1 p (by simp)).1 (h1 p (by simp)).2
          have q2 := ih hs (fun q hq => h1 q (by simp [hq])) fun k hk => h2 k (by simp [hk])
          rw [e, docL_app, List.length_append]
          simp only [plsB, List.map_cons, List.sum_cons] at q2 ⊢
          omega
    exact gen _ _ (fun p hp => ⟨hw.p p hp, hr p hp⟩) hw.h
  have h2 : (docL (s.wins.map fun w => lineL (winW w))).length ≤ 128 * (s.wins.map fun _ => 1).sum := docL_sum (g := fun _ : Wn => 1) fun w hm => by
    obtain ⟨a, b, c⟩ := hw.w w hm
    have := itoa_le a
    have := itoa_le b
    have := itoa_le c
    have : (lineL (winW w)).length ≤ 84 := wsl_le (b := 20) (fun x hx => by
      simp only [winW, List.mem_cons, List.not_mem_nil, or_false] at hx
      rcases hx with rfl | rfl | rfl | rfl
      · decide
      · split
        · decide
        · assumption
      · assumption
      · assumption) (by simp [winW])
    omega
  have h3 : (docL (s.links.map fun q => lineL (linkW q))).length ≤ 128 * (s.links.map fun _ => 1).sum := docL_sum (g := fun _ : Q4 => 1) fun q hm => by
    have hq := hw.k q hm
    have q0 := itoa_le (show inR q.a from hq 0)
    have q1 := itoa_le (show inR q.b from hq 1)
    have q2 := itoa_le (show inR q.c from hq 2)
    have q3 := itoa_le (show inR q.d from hq 3)
    have : (lineL (linkW q)).length ≤ 105 := wsl_le (b := 20) (fun x hx => by
      simp only [linkW, List.mem_cons, List.not_mem_nil, or_false] at hx
      rcases hx with rfl | rfl | rfl | rfl | rfl
      · decide
      · assumption
      · assumption
      · assumption
      · assumption) (by simp [linkW])
    omega
  have h4 : (docL (s.ins.map fun n => lineL (inpW n))).length ≤ 128 * insB s.ins := docL_sum (g := fun n : In => n.d.size + 1) fun n hm => by
    obtain ⟨a, b, c⟩ := hw.i n hm
    have := itoa_le a
    have := itoa_le b
    have := itoa_le c
    have := dataL_sz n.d
    have e : (lineL (inpW n)).length = 5 + 1 + (Go.Lib.itoa n.p).length + 1 + (Go.Lib.itoa n.f).length + 1 + (Go.Lib.itoa n.q).length + 1 + (dataL n.d.data.toList).length := by
      simp [lineL, inpW, Go.Lib.join_cons, Go.Lib.joinTail, wInp]; omega
    omega
  have h5 : (docL (s.ops.map opL)).length ≤ 128 * (s.ops.map fun _ => 1).sum := docL_sum (g := fun _ : Q4 => 1) fun q hm => by
    have := opL_len (hw.o q hm)
    omega
  rw [sum_ones] at h2 h3 h5
  simp only [printL, docL_app, docL_one, List.length_append, nl_len, scB]
  omega

theorem scN_of {s : Sc} (hw : ScW s) (hb : scB s ≤ 1048576) (hc : chk s = none) : ScN s := by
  obtain ⟨h1, h2⟩ := chk_none hc
  have hr : ∀ p ∈ s.parts, ∀ g ∈ p.pgs, 0 ≤ g.r ∧ g.r ≤ 7 := fun p hp g hg => by
    have := List.all_eq_true.1 (h1 p hp).1 g hg
    simpa [pgOk] using this
  have hd := print_size hw fun p hp g hg => rightsL_len g.r
  have hl := docL_lines (printL s)
  have b1 : plsB s.parts ≤ 1048576 := by unfold scB at hb; omega
  have b2 : insB s.ins ≤ 1048576 := by unfold scB at hb; omega
  have b3 := sum_len plB s.parts
  have b4 := sum_len (fun n : In => n.d.size) s.ins
  have hpart : ∀ p ∈ s.parts, plB p ≤ 1048576 := fun p hp => by
    have : plB p + 1 ≤ plsB s.parts := sum_mem (f := fun p => plB p + 1) hp
    omega
  have hroom : room = 140737488355328 := rfl
  refine ⟨hw.t, hw.r, fun p hp => ?_, hw.h, hw.w, hw.k, fun n hn => ?_, hw.o, h2, by unfold plsB at b1; omega, by unfold scB at hb; omega, by unfold scB at hb; omega, by unfold insB at b2; omega, by unfold scB at hb; omega, by omega, by omega⟩
  · have hP := hw.p p hp
    have hB := hpart p hp
    have b5 := sum_len (fun g : Pg => g.s.size) p.pgs
    refine ⟨hr p hp, fun g hg => ?_, hP.e, hP.q, hP.ev, hP.sm, ?_, ?_, ?_, ?_⟩
    · have : g.s.size + 1 ≤ pgsB p.pgs := sum_mem (f := fun g : Pg => g.s.size + 1) hg
      have e : g.s.data.toList.length = g.s.size := by simp
      unfold plB at hB
      omega
    · unfold plB pgsB at hB; omega
    · unfold plB at hB; omega
    · unfold plB at hB; omega
    · unfold plB at hB; omega
  · obtain ⟨a, b, c⟩ := hw.i n hn
    have : n.d.size + 1 ≤ insB s.ins := sum_mem (f := fun n : In => n.d.size + 1) hn
    have e : n.d.data.toList.length = n.d.size := by simp
    exact ⟨a, b, c, by omega⟩
end Go.Fv.Tr
