/-
  The shape of a script as an argument. By an AI agent; no person has read it.
-/
import Derived.Test.YtgcjnpfidjfmmaaDoorFvRM
import Derived.Test.YtgcjnpfidjfmmaaDoorFvStE
set_option linter.unusedVariables false
set_option linter.unusedSimpArgs false
set_option linter.unusedSectionVars false
/-! The shape of a script as an argument. -/
namespace Go.Proofs.YtgcjnpfidjfmmaaDoor
open Go Go.Fv Go.Fv.Tr Go.ChangeShapes Go.WideShapes Go.RowKit

theorem clI : Tryd.prog.cellsOf 3 = 1 := by kernel_rfl
theorem clB : Tryd.prog.cellsOf 4 = 1 := by kernel_rfl
theorem clS : Tryd.prog.cellsOf 9 = 1 := by kernel_rfl
theorem byI : Tryd.prog.bytesOf 3 = 8 := by kernel_rfl
theorem cl_pg : Tryd.prog.cellsOf 57 = 2 := by kernel_rfl
theorem by_pg : Tryd.prog.bytesOf 57 = 24 := by kernel_rfl
theorem ln_pg {α : Type} {l : List α} (h : l.length = 2) : ∃ a0 a1, l = [a0, a1] := by
  match l, h with
  | [a0, a1], _ => exact ⟨_, _, rfl⟩
set_option maxRecDepth 100000 in
theorem sh_pg {n : Nat} {r : List V} (h : Sh Tryd.prog (n + 2) 57 r) : ∃ p : Pg, r = pgR p ∧ (Lit.int .i64 p.r).wf = true ∧ p.s.size ≤ reachBytes := by
  obtain ⟨h1, h2⟩ := sh_struct Tryd.underlying57 h
  rw [cl_pg] at h1
  obtain ⟨a0, a1, rfl⟩ := ln_pg h1
  simp [clI, clB, clS] at h2
  obtain ⟨g0, g1⟩ := h2
  obtain ⟨m0, w0, e0⟩ := sh_int Tryd.underlying3 g0
  obtain ⟨m1, w1, e1⟩ := sh_str Tryd.underlying9 g1
  cases e0; cases e1
  exact ⟨⟨m0, m1⟩, rfl, w0, w1⟩
theorem cl_pc : Tryd.prog.cellsOf 94 = 3 := by kernel_rfl
theorem by_pc : Tryd.prog.bytesOf 94 = 24 := by kernel_rfl
theorem ln_pc {α : Type} {l : List α} (h : l.length = 3) : ∃ a0 a1 a2, l = [a0, a1, a2] := by
  match l, h with
  | [a0, a1, a2], _ => exact ⟨_, _, _, rfl⟩
set_option maxRecDepth 100000 in
theorem sh_pc {n : Nat} {r : List V} (h : Sh Tryd.prog (n + 2) 94 r) : ∃ p : Pc, r = pcR p ∧ (Lit.int .i64 p.e).wf = true ∧ (Lit.int .i64 p.p).wf = true := by
  obtain ⟨h1, h2⟩ := sh_struct Tryd.underlying94 h
  rw [cl_pc] at h1
  obtain ⟨a0, a1, a2, rfl⟩ := ln_pc h1
  simp [clI, clB, clS] at h2
  obtain ⟨g0, g1, g2⟩ := h2
  obtain ⟨m0, w0, e0⟩ := sh_int Tryd.underlying3 g0
  obtain ⟨m1, w1, e1⟩ := sh_int Tryd.underlying3 g1
  obtain ⟨m2, e2⟩ := sh_bool Tryd.underlying4 g2
  cases e0; cases e1; cases e2
  exact ⟨⟨m0, m1, m2⟩, rfl, w0, w1⟩
theorem cl_pt : Tryd.prog.cellsOf 59 = 4 := by kernel_rfl
theorem by_pt : Tryd.prog.bytesOf 59 = 32 := by kernel_rfl
theorem ln_pt {α : Type} {l : List α} (h : l.length = 4) : ∃ a0 a1 a2 a3, l = [a0, a1, a2, a3] := by
  match l, h with
  | [a0, a1, a2, a3], _ => exact ⟨_, _, _, _, rfl⟩
set_option maxRecDepth 100000 in
theorem sh_pt {n : Nat} {r : List V} (h : Sh Tryd.prog (n + 2) 59 r) : ∃ p : Pt, r = ptR p ∧ (Lit.int .i64 p.k).wf = true ∧ (Lit.int .i64 p.z).wf = true ∧ (Lit.int .i64 p.d).wf = true ∧ (Lit.int .i64 p.f).wf = true := by
  obtain ⟨h1, h2⟩ := sh_struct Tryd.underlying59 h
  rw [cl_pt] at h1
  obtain ⟨a0, a1, a2, a3, rfl⟩ := ln_pt h1
  simp [clI, clB, clS] at h2
  obtain ⟨g0, g1, g2, g3⟩ := h2
  obtain ⟨m0, w0, e0⟩ := sh_int Tryd.underlying3 g0
  obtain ⟨m1, w1, e1⟩ := sh_int Tryd.underlying3 g1
  obtain ⟨m2, w2, e2⟩ := sh_int Tryd.underlying3 g2
  obtain ⟨m3, w3, e3⟩ := sh_int Tryd.underlying3 g3
  cases e0; cases e1; cases e2; cases e3
  exact ⟨⟨m0, m1, m2, m3⟩, rfl, w0, w1, w2, w3⟩
theorem cl_wn : Tryd.prog.cellsOf 67 = 3 := by kernel_rfl
theorem by_wn : Tryd.prog.bytesOf 67 = 24 := by kernel_rfl
theorem ln_wn {α : Type} {l : List α} (h : l.length = 3) : ∃ a0 a1 a2, l = [a0, a1, a2] := by
  match l, h with
  | [a0, a1, a2], _ => exact ⟨_, _, _, rfl⟩
set_option maxRecDepth 100000 in
theorem sh_wn {n : Nat} {r : List V} (h : Sh Tryd.prog (n + 2) 67 r) : ∃ p : Wn, r = wnR p ∧ (Lit.int .i64 p.p).wf = true ∧ (Lit.int .i64 p.s).wf = true ∧ (Lit.int .i64 p.l).wf = true := by
  obtain ⟨h1, h2⟩ := sh_struct Tryd.underlying67 h
  rw [cl_wn] at h1
  obtain ⟨a0, a1, a2, rfl⟩ := ln_wn h1
  simp [clI, clB, clS] at h2
  obtain ⟨g0, g1, g2⟩ := h2
  obtain ⟨m0, w0, e0⟩ := sh_int Tryd.underlying3 g0
  obtain ⟨m1, w1, e1⟩ := sh_int Tryd.underlying3 g1
  obtain ⟨m2, w2, e2⟩ := sh_int Tryd.underlying3 g2
  cases e0; cases e1; cases e2
  exact ⟨⟨m0, m1, m2⟩, rfl, w0, w1, w2⟩
theorem cl_lk : Tryd.prog.cellsOf 70 = 4 := by kernel_rfl
theorem by_lk : Tryd.prog.bytesOf 70 = 32 := by kernel_rfl
theorem ln_lk {α : Type} {l : List α} (h : l.length = 4) : ∃ a0 a1 a2 a3, l = [a0, a1, a2, a3] := by
  match l, h with
  | [a0, a1, a2, a3], _ => exact ⟨_, _, _, _, rfl⟩
set_option maxRecDepth 100000 in
theorem sh_lk {n : Nat} {r : List V} (h : Sh Tryd.prog (n + 2) 70 r) : ∃ p : Q4, r = q4R p ∧ (Lit.int .i64 p.a).wf = true ∧ (Lit.int .i64 p.b).wf = true ∧ (Lit.int .i64 p.c).wf = true ∧ (Lit.int .i64 p.d).wf = true := by
  obtain ⟨h1, h2⟩ := sh_struct Tryd.underlying70 h
  rw [cl_lk] at h1
  obtain ⟨a0, a1, a2, a3, rfl⟩ := ln_lk h1
  simp [clI, clB, clS] at h2
  obtain ⟨g0, g1, g2, g3⟩ := h2
  obtain ⟨m0, w0, e0⟩ := sh_int Tryd.underlying3 g0
  obtain ⟨m1, w1, e1⟩ := sh_int Tryd.underlying3 g1
  obtain ⟨m2, w2, e2⟩ := sh_int Tryd.underlying3 g2
  obtain ⟨m3, w3, e3⟩ := sh_int Tryd.underlying3 g3
  cases e0; cases e1; cases e2; cases e3
  exact ⟨⟨m0, m1, m2, m3⟩, rfl, w0, w1, w2, w3⟩
theorem cl_op : Tryd.prog.cellsOf 50 = 4 := by kernel_rfl
theorem by_op : Tryd.prog.bytesOf 50 = 32 := by kernel_rfl
theorem ln_op {α : Type} {l : List α} (h : l.length = 4) : ∃ a0 a1 a2 a3, l = [a0, a1, a2, a3] := by
  match l, h with
  | [a0, a1, a2, a3], _ => exact ⟨_, _, _, _, rfl⟩
set_option maxRecDepth 100000 in
theorem sh_op {n : Nat} {r : List V} (h : Sh Tryd.prog (n + 2) 50 r) : ∃ p : Q4, r = q4R p ∧ (Lit.int .i64 p.a).wf = true ∧ (Lit.int .i64 p.b).wf = true ∧ (Lit.int .i64 p.c).wf = true ∧ (Lit.int .i64 p.d).wf = true := by
  obtain ⟨h1, h2⟩ := sh_struct Tryd.underlying50 h
  rw [cl_op] at h1
  obtain ⟨a0, a1, a2, a3, rfl⟩ := ln_op h1
  simp [clI, clB, clS] at h2
  obtain ⟨g0, g1, g2, g3⟩ := h2
  obtain ⟨m0, w0, e0⟩ := sh_int Tryd.underlying3 g0
  obtain ⟨m1, w1, e1⟩ := sh_int Tryd.underlying3 g1
  obtain ⟨m2, w2, e2⟩ := sh_int Tryd.underlying3 g2
  obtain ⟨m3, w3, e3⟩ := sh_int Tryd.underlying3 g3
  cases e0; cases e1; cases e2; cases e3
  exact ⟨⟨m0, m1, m2, m3⟩, rfl, w0, w1, w2, w3⟩
theorem cl_in : Tryd.prog.cellsOf 72 = 4 := by kernel_rfl
theorem by_in : Tryd.prog.bytesOf 72 = 40 := by kernel_rfl
theorem ln_in {α : Type} {l : List α} (h : l.length = 4) : ∃ a0 a1 a2 a3, l = [a0, a1, a2, a3] := by
  match l, h with
  | [a0, a1, a2, a3], _ => exact ⟨_, _, _, _, rfl⟩
set_option maxRecDepth 100000 in
theorem sh_in {n : Nat} {r : List V} (h : Sh Tryd.prog (n + 2) 72 r) : ∃ p : In, r = inR p ∧ (Lit.int .i64 p.p).wf = true ∧ (Lit.int .i64 p.f).wf = true ∧ (Lit.int .i64 p.q).wf = true ∧ p.d.size ≤ reachBytes := by
  obtain ⟨h1, h2⟩ := sh_struct Tryd.underlying72 h
  rw [cl_in] at h1
  obtain ⟨a0, a1, a2, a3, rfl⟩ := ln_in h1
  simp [clI, clB, clS] at h2
  obtain ⟨g0, g1, g2, g3⟩ := h2
  obtain ⟨m0, w0, e0⟩ := sh_int Tryd.underlying3 g0
  obtain ⟨m1, w1, e1⟩ := sh_int Tryd.underlying3 g1
  obtain ⟨m2, w2, e2⟩ := sh_int Tryd.underlying3 g2
  obtain ⟨m3, w3, e3⟩ := sh_str Tryd.underlying9 g3
  cases e0; cases e1; cases e2; cases e3
  exact ⟨⟨m0, m1, m2, m3⟩, rfl, w0, w1, w2, w3⟩
set_option maxRecDepth 100000 in
theorem sh_n {n : Nat} {r : List V} (h : Sh Tryd.prog (n + 2) 3 r) : ∃ m : Int, r = iR m ∧ (Lit.int .i64 m).wf = true := by
  obtain ⟨m, hm, rfl⟩ := sh_int Tryd.underlying3 h
  exact ⟨m, rfl, hm⟩
theorem cl_n : Tryd.prog.cellsOf 3 = 1 := clI
set_option maxRecDepth 100000 in
theorem sl_pg {n : Nat} {l : List V} (h : Sh Tryd.prog (n + 3) 44 l) : ∃ (x : V) (ps : List Pg), l = [x] ∧ Sls x 2 (ps.map pgR) ∧ ps.length ≤ maxLen ∧ ps.length * Tryd.prog.bytesOf 57 ≤ reachBytes := by
  obtain ⟨z, r, e, s, l, b, q⟩ := sh_slice Tryd.underlying44 h
  obtain ⟨ps, rfl, w⟩ := choose_map (f := pgR) fun r hr => sh_pg (q r hr)
  rw [cl_pg] at s
  rw [List.length_map] at l b
  exact ⟨z, ps, e, s, l, b⟩
set_option maxRecDepth 100000 in
theorem sl_pc {n : Nat} {l : List V} (h : Sh Tryd.prog (n + 3) 45 l) : ∃ (x : V) (ps : List Pc), l = [x] ∧ Sls x 3 (ps.map pcR) ∧ ps.length ≤ maxLen ∧ ps.length * Tryd.prog.bytesOf 94 ≤ reachBytes := by
  obtain ⟨z, r, e, s, l, b, q⟩ := sh_slice Tryd.underlying45 h
  obtain ⟨ps, rfl, w⟩ := choose_map (f := pcR) fun r hr => sh_pc (q r hr)
  rw [cl_pc] at s
  rw [List.length_map] at l b
  exact ⟨z, ps, e, s, l, b⟩
set_option maxRecDepth 100000 in
theorem sl_pt {n : Nat} {l : List V} (h : Sh Tryd.prog (n + 3) 46 l) : ∃ (x : V) (ps : List Pt), l = [x] ∧ Sls x 4 (ps.map ptR) ∧ ps.length ≤ maxLen ∧ ps.length * Tryd.prog.bytesOf 59 ≤ reachBytes := by
  obtain ⟨z, r, e, s, l, b, q⟩ := sh_slice Tryd.underlying46 h
  obtain ⟨ps, rfl, w⟩ := choose_map (f := ptR) fun r hr => sh_pt (q r hr)
  rw [cl_pt] at s
  rw [List.length_map] at l b
  exact ⟨z, ps, e, s, l, b⟩
set_option maxRecDepth 100000 in
theorem sl_wn {n : Nat} {l : List V} (h : Sh Tryd.prog (n + 3) 24 l) : ∃ (x : V) (ps : List Wn), l = [x] ∧ Sls x 3 (ps.map wnR) ∧ ps.length ≤ maxLen ∧ ps.length * Tryd.prog.bytesOf 67 ≤ reachBytes := by
  obtain ⟨z, r, e, s, l, b, q⟩ := sh_slice Tryd.underlying24 h
  obtain ⟨ps, rfl, w⟩ := choose_map (f := wnR) fun r hr => sh_wn (q r hr)
  rw [cl_wn] at s
  rw [List.length_map] at l b
  exact ⟨z, ps, e, s, l, b⟩
set_option maxRecDepth 100000 in
theorem sl_lk {n : Nat} {l : List V} (h : Sh Tryd.prog (n + 3) 25 l) : ∃ (x : V) (ps : List Q4), l = [x] ∧ Sls x 4 (ps.map q4R) ∧ ps.length ≤ maxLen ∧ ps.length * Tryd.prog.bytesOf 70 ≤ reachBytes := by
  obtain ⟨z, r, e, s, l, b, q⟩ := sh_slice Tryd.underlying25 h
  obtain ⟨ps, rfl, w⟩ := choose_map (f := q4R) fun r hr => sh_lk (q r hr)
  rw [cl_lk] at s
  rw [List.length_map] at l b
  exact ⟨z, ps, e, s, l, b⟩
set_option maxRecDepth 100000 in
theorem sl_op {n : Nat} {l : List V} (h : Sh Tryd.prog (n + 3) 29 l) : ∃ (x : V) (ps : List Q4), l = [x] ∧ Sls x 4 (ps.map q4R) ∧ ps.length ≤ maxLen ∧ ps.length * Tryd.prog.bytesOf 50 ≤ reachBytes := by
  obtain ⟨z, r, e, s, l, b, q⟩ := sh_slice Tryd.underlying29 h
  obtain ⟨ps, rfl, w⟩ := choose_map (f := q4R) fun r hr => sh_op (q r hr)
  rw [cl_op] at s
  rw [List.length_map] at l b
  exact ⟨z, ps, e, s, l, b⟩
set_option maxRecDepth 100000 in
theorem sl_in {n : Nat} {l : List V} (h : Sh Tryd.prog (n + 3) 28 l) : ∃ (x : V) (ps : List In), l = [x] ∧ Sls x 4 (ps.map inR) ∧ ps.length ≤ maxLen ∧ ps.length * Tryd.prog.bytesOf 72 ≤ reachBytes := by
  obtain ⟨z, r, e, s, l, b, q⟩ := sh_slice Tryd.underlying28 h
  obtain ⟨ps, rfl, w⟩ := choose_map (f := inR) fun r hr => sh_in (q r hr)
  rw [cl_in] at s
  rw [List.length_map] at l b
  exact ⟨z, ps, e, s, l, b⟩
set_option maxRecDepth 100000 in
theorem sl_n {n : Nat} {l : List V} (h : Sh Tryd.prog (n + 3) 23 l) : ∃ (x : V) (ps : List Int), l = [x] ∧ Sls x 1 (ps.map iR) ∧ ps.length ≤ maxLen ∧ ps.length * Tryd.prog.bytesOf 3 ≤ reachBytes := by
  obtain ⟨z, r, e, s, l, b, q⟩ := sh_slice Tryd.underlying23 h
  obtain ⟨ps, rfl, w⟩ := choose_map (f := iR) fun r hr => sh_n (q r hr)
  rw [cl_n] at s
  rw [List.length_map] at l b
  exact ⟨z, ps, e, s, l, b⟩
theorem ln7 {α : Type} {l : List α} (h : l.length = 7) : ∃ a0 a1 a2 a3 a4 a5 a6, l = [a0, a1, a2, a3, a4, a5, a6] := by
  match l, h with
  | [a0, a1, a2, a3, a4, a5, a6], _ => exact ⟨_, _, _, _, _, _, _, rfl⟩
theorem ln8 {α : Type} {l : List α} (h : l.length = 8) : ∃ a0 a1 a2 a3 a4 a5 a6 a7, l = [a0, a1, a2, a3, a4, a5, a6, a7] := by
  match l, h with
  | [a0, a1, a2, a3, a4, a5, a6, a7], _ => exact ⟨_, _, _, _, _, _, _, _, rfl⟩
theorem cl_plan : Tryd.prog.cellsOf 48 = 7 := by kernel_rfl
theorem by_plan : Tryd.prog.bytesOf 48 = 120 := by kernel_rfl
theorem cl_cfg : Tryd.prog.cellsOf 27 = 6 := by kernel_rfl
theorem cl_scr : Tryd.prog.cellsOf 31 = 8 := by kernel_rfl
theorem cl_pgs : Tryd.prog.cellsOf 44 = 1 := by kernel_rfl
theorem cl_pcs : Tryd.prog.cellsOf 45 = 1 := by kernel_rfl
theorem cl_pts : Tryd.prog.cellsOf 46 = 1 := by kernel_rfl
theorem cl_ns : Tryd.prog.cellsOf 23 = 1 := by kernel_rfl
theorem cl_pls : Tryd.prog.cellsOf 22 = 1 := by kernel_rfl
theorem cl_wns : Tryd.prog.cellsOf 24 = 1 := by kernel_rfl
theorem cl_lks : Tryd.prog.cellsOf 25 = 1 := by kernel_rfl
theorem cl_ins : Tryd.prog.cellsOf 28 = 1 := by kernel_rfl
theorem cl_ops : Tryd.prog.cellsOf 29 = 1 := by kernel_rfl
set_option maxRecDepth 100000 in
theorem reach_room {n : Nat} (h : n ≤ reachBytes) : n ≤ room := Nat.le_trans h (of_decide_eq_true (by kernel_rfl))
structure FitP (p : Pl) : Prop where
  b : PlB p
  fit : p.pgs.length * 24 ≤ room ∧ p.prs.length * 24 ≤ room ∧ p.pts.length * 32 ≤ room ∧ p.sems.length * 8 ≤ room
set_option maxRecDepth 100000 in
theorem sh_plan {n : Nat} {r : List V} (h : Sh Tryd.prog (n + 4) 48 r) : ∃ p : Pl, PlS r p ∧ FitP p := by
  obtain ⟨h1, h2⟩ := sh_struct Tryd.underlying48 h
  rw [cl_plan] at h1
  obtain ⟨a0, a1, a2, a3, a4, a5, a6, rfl⟩ := ln7 h1
  simp [clI, clB, cl_pgs, cl_pcs, cl_pts, cl_ns] at h2
  obtain ⟨g0, g1, g2, g3, g4, g5, g6⟩ := h2
  obtain ⟨m0, w0, e0⟩ := sh_int Tryd.underlying3 g0
  obtain ⟨m1, e1⟩ := sh_bool Tryd.underlying4 g1
  obtain ⟨x2, l2, e2, s2, q2, f2⟩ := sl_pg g2
  obtain ⟨x3, l3, e3, s3, q3, f3⟩ := sl_pc g3
  obtain ⟨x4, l4, e4, s4, q4, f4⟩ := sl_pt g4
  obtain ⟨m5, w5, e5⟩ := sh_int Tryd.underlying3 g5
  obtain ⟨x6, l6, e6, s6, q6, f6⟩ := sl_n g6
  rw [by_pg] at f2
  rw [by_pc] at f3
  rw [by_pt] at f4
  rw [byI] at f6
  cases e0; cases e1; cases e2; cases e3; cases e4; cases e5; cases e6
  have mb : maxLen ≤ 9223372036854775807 := by decide
  exact ⟨⟨m0, m1, l2, l3, l4, m5, l6⟩, ⟨_, _, _, _, rfl, s2, s3, s4, s6⟩, ⟨Nat.le_trans q2 mb, Nat.le_trans q4 mb⟩, reach_room f2, reach_room f3, reach_room f4, reach_room f6⟩
theorem choose_rel {α β : Type} {R : β → α → Prop} {W : α → Prop} : ∀ {l : List β}, (∀ r ∈ l, ∃ p, R r p ∧ W p) → ∃ ps : List α, ∃ e : l.length = ps.length, (∀ (j : Nat) (hj : j < l.length), R l[j] (ps[j]'(by rw [← e]; exact hj))) ∧ ∀ p ∈ ps, W p
  | [], _ => ⟨[], rfl, fun j hj => absurd hj (Nat.not_lt_zero _), by simp⟩
  | r :: l, h => by
    obtain ⟨p, hp, hw⟩ := h r (by simp)
    obtain ⟨ps, e, h1, h2⟩ := choose_rel (l := l) fun r hr => h r (by simp [hr])
    refine ⟨p :: ps, by simp [e], fun j hj => ?_, by simpa using ⟨hw, h2⟩⟩
    cases j with
    | zero => exact hp
    | succ j => exact h1 j (by simpa using hj)
set_option maxRecDepth 100000 in
theorem sh_script {n : Nat} {l : List V} (h : Sh Tryd.prog (n + 7) 31 l) : ∃ s ps hs ws ks is os rows, ScS l s ps hs ws ks is os rows ∧ Fits s := by
  obtain ⟨h1, h2⟩ := sh_struct Tryd.underlying31 h
  rw [cl_scr] at h1
  obtain ⟨a0, a1, a2, a3, a4, a5, a6, a7, rfl⟩ := ln8 h1
  simp [cl_cfg, cl_ins, cl_ops] at h2
  obtain ⟨g, g6, g7⟩ := h2
  obtain ⟨_, h3⟩ := sh_struct Tryd.underlying27 g
  simp [clI, cl_pls, cl_ns, cl_wns, cl_lks] at h3
  obtain ⟨g0, g1, g2, g3, g4, g5⟩ := h3
  obtain ⟨m0, w0, e0⟩ := sh_int Tryd.underlying3 g0
  obtain ⟨x1, rows, e1, s1, q1, f1, r1⟩ := sh_slice Tryd.underlying22 g1
  obtain ⟨x2, l2, e2, s2, q2, f2⟩ := sl_n g2
  obtain ⟨x3, l3, e3, s3, q3, f3⟩ := sl_wn g3
  obtain ⟨x4, l4, e4, s4, q4, f4⟩ := sl_lk g4
  obtain ⟨m5, w5, e5⟩ := sh_int Tryd.underlying3 g5
  obtain ⟨x6, l6, e6, s6, q6, f6⟩ := sl_in g6
  obtain ⟨x7, l7, e7, s7, q7, f7⟩ := sl_op g7
  obtain ⟨ps, el, hr, hw⟩ := choose_rel fun r hr => sh_plan (r1 r hr)
  rw [cl_plan] at s1
  rw [by_plan, el] at f1
  rw [byI] at f2
  rw [by_wn] at f3
  rw [by_lk] at f4
  rw [by_in] at f6
  rw [by_op] at f7
  rw [el] at q1
  cases e0; cases e1; cases e2; cases e3; cases e4; cases e5; cases e6; cases e7
  have mb : maxLen ≤ 9223372036854775807 := by decide
  exact ⟨⟨m0, ps, l2, l3, l4, m5, l6, l7⟩, _, _, _, _, _, _, rows, ⟨rfl, s1, s2, s3, s4, s6, s7, el, hr, Nat.le_trans q1 mb, fun p hp => (hw p hp).b⟩,
    ⟨reach_room f2, reach_room f3, reach_room f4, reach_room f6, reach_room f7, reach_room f1, fun p hp => (hw p hp).fit⟩⟩
theorem argVScr (l : List V) : argV Tryd.prog 31 l = .agg l := by
  unfold argV
  rw [Tryd.underlying31]
theorem inScr : inTy Tryd.prog 7 31 = true := by kernel_rfl
section
variable {P : Program} {n : Nat}
theorem shs1 {t1 : TypeId} {xs : List V} (h : Shs P n [t1] xs) : ∃ a, xs = [a] ∧ ∃ l, Sh P n t1 l ∧ a = argV P t1 l := by
  cases xs with
  | nil => exact h.elim
  | cons a xs => cases xs with
    | nil => exact ⟨a, rfl, h.1⟩
    | cons b xs => exact h.2.elim
end
end Go.Proofs.YtgcjnpfidjfmmaaDoor
