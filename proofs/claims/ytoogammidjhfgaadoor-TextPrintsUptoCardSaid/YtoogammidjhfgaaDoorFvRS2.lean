/-
  The shape of a script as an argument, its numbers in their ranges. By an AI agent; no person has read it.
-/
import Derived.Test.YtoogammidjhfgaaDoorFvRM
import Derived.Test.YtoogammidjhfgaaDoorFvSvJ
set_option linter.unusedVariables false
set_option linter.unusedSimpArgs false
set_option linter.unusedSectionVars false
/-! The shape of a script as an argument, its numbers in their ranges. -/
namespace Go.Proofs.YtoogammidjhfgaaDoor
open Go Go.Fv Go.Fv.Tr Go.ChangeShapes Go.WideShapes Go.RowKit

theorem clI : Tryd.prog.cellsOf 3 = 1 := by kernel_rfl
theorem clB : Tryd.prog.cellsOf 4 = 1 := by kernel_rfl
theorem clS : Tryd.prog.cellsOf 9 = 1 := by kernel_rfl
theorem byI : Tryd.prog.bytesOf 3 = 8 := by kernel_rfl
theorem cl_pg : Tryd.prog.cellsOf 182 = 2 := by kernel_rfl
theorem by_pg : Tryd.prog.bytesOf 182 = 24 := by kernel_rfl
theorem ln_pg {α : Type} {l : List α} (h : l.length = 2) : ∃ a0 a1, l = [a0, a1] := by
  match l, h with
  | [a0, a1], _ => exact ⟨_, _, rfl⟩
set_option maxRecDepth 100000 in
theorem sh_pg {n : Nat} {r : List V} (h : Sh Tryd.prog (n + 2) 182 r) : ∃ p : Pg, r = pgR p ∧ (Lit.int .i64 p.r).wf = true ∧ p.s.size ≤ reachBytes := by
  obtain ⟨h1, h2⟩ := sh_struct Tryd.underlying182 h
  rw [cl_pg] at h1
  obtain ⟨a0, a1, rfl⟩ := ln_pg h1
  simp [clI, clB, clS] at h2
  obtain ⟨g0, g1⟩ := h2
  obtain ⟨m0, w0, e0⟩ := sh_int Tryd.underlying3 g0
  obtain ⟨m1, w1, e1⟩ := sh_str Tryd.underlying9 g1
  cases e0; cases e1
  exact ⟨⟨m0, m1⟩, rfl, w0, w1⟩
theorem cl_pc : Tryd.prog.cellsOf 242 = 3 := by kernel_rfl
theorem by_pc : Tryd.prog.bytesOf 242 = 24 := by kernel_rfl
theorem ln_pc {α : Type} {l : List α} (h : l.length = 3) : ∃ a0 a1 a2, l = [a0, a1, a2] := by
  match l, h with
  | [a0, a1, a2], _ => exact ⟨_, _, _, rfl⟩
set_option maxRecDepth 100000 in
theorem sh_pc {n : Nat} {r : List V} (h : Sh Tryd.prog (n + 2) 242 r) : ∃ p : Pc, r = pcR p ∧ (Lit.int .i64 p.e).wf = true ∧ (Lit.int .i64 p.p).wf = true := by
  obtain ⟨h1, h2⟩ := sh_struct Tryd.underlying242 h
  rw [cl_pc] at h1
  obtain ⟨a0, a1, a2, rfl⟩ := ln_pc h1
  simp [clI, clB, clS] at h2
  obtain ⟨g0, g1, g2⟩ := h2
  obtain ⟨m0, w0, e0⟩ := sh_int Tryd.underlying3 g0
  obtain ⟨m1, w1, e1⟩ := sh_int Tryd.underlying3 g1
  obtain ⟨m2, e2⟩ := sh_bool Tryd.underlying4 g2
  cases e0; cases e1; cases e2
  exact ⟨⟨m0, m1, m2⟩, rfl, w0, w1⟩
theorem cl_pt : Tryd.prog.cellsOf 184 = 4 := by kernel_rfl
theorem by_pt : Tryd.prog.bytesOf 184 = 32 := by kernel_rfl
theorem ln_pt {α : Type} {l : List α} (h : l.length = 4) : ∃ a0 a1 a2 a3, l = [a0, a1, a2, a3] := by
  match l, h with
  | [a0, a1, a2, a3], _ => exact ⟨_, _, _, _, rfl⟩
set_option maxRecDepth 100000 in
theorem sh_pt {n : Nat} {r : List V} (h : Sh Tryd.prog (n + 2) 184 r) : ∃ p : Pt, r = ptR p ∧ (Lit.int .i64 p.k).wf = true ∧ (Lit.int .i64 p.z).wf = true ∧ (Lit.int .i64 p.d).wf = true ∧ (Lit.int .i64 p.f).wf = true := by
  obtain ⟨h1, h2⟩ := sh_struct Tryd.underlying184 h
  rw [cl_pt] at h1
  obtain ⟨a0, a1, a2, a3, rfl⟩ := ln_pt h1
  simp [clI, clB, clS] at h2
  obtain ⟨g0, g1, g2, g3⟩ := h2
  obtain ⟨m0, w0, e0⟩ := sh_int Tryd.underlying3 g0
  obtain ⟨m1, w1, e1⟩ := sh_int Tryd.underlying3 g1
  obtain ⟨m2, w2, e2⟩ := sh_int Tryd.underlying3 g2
  obtain ⟨m3, w3, e3⟩ := sh_int Tryd.underlying3 g3
  cases e0; cases e1; cases e2; cases e3
  exact ⟨⟨m0, m1, m2, m3⟩, rfl, w0, w1, w2, w3⟩
theorem cl_wn : Tryd.prog.cellsOf 171 = 3 := by kernel_rfl
theorem by_wn : Tryd.prog.bytesOf 171 = 24 := by kernel_rfl
theorem ln_wn {α : Type} {l : List α} (h : l.length = 3) : ∃ a0 a1 a2, l = [a0, a1, a2] := by
  match l, h with
  | [a0, a1, a2], _ => exact ⟨_, _, _, rfl⟩
set_option maxRecDepth 100000 in
theorem sh_wn {n : Nat} {r : List V} (h : Sh Tryd.prog (n + 2) 171 r) : ∃ p : Wn, r = wnR p ∧ (Lit.int .i64 p.p).wf = true ∧ (Lit.int .i64 p.s).wf = true ∧ (Lit.int .i64 p.l).wf = true := by
  obtain ⟨h1, h2⟩ := sh_struct Tryd.underlying171 h
  rw [cl_wn] at h1
  obtain ⟨a0, a1, a2, rfl⟩ := ln_wn h1
  simp [clI, clB, clS] at h2
  obtain ⟨g0, g1, g2⟩ := h2
  obtain ⟨m0, w0, e0⟩ := sh_int Tryd.underlying3 g0
  obtain ⟨m1, w1, e1⟩ := sh_int Tryd.underlying3 g1
  obtain ⟨m2, w2, e2⟩ := sh_int Tryd.underlying3 g2
  cases e0; cases e1; cases e2
  exact ⟨⟨m0, m1, m2⟩, rfl, w0, w1, w2⟩
theorem cl_lk : Tryd.prog.cellsOf 174 = 4 := by kernel_rfl
theorem by_lk : Tryd.prog.bytesOf 174 = 32 := by kernel_rfl
theorem ln_lk {α : Type} {l : List α} (h : l.length = 4) : ∃ a0 a1 a2 a3, l = [a0, a1, a2, a3] := by
  match l, h with
  | [a0, a1, a2, a3], _ => exact ⟨_, _, _, _, rfl⟩
set_option maxRecDepth 100000 in
theorem sh_lk {n : Nat} {r : List V} (h : Sh Tryd.prog (n + 2) 174 r) : ∃ p : Q4, r = q4R p ∧ (Lit.int .i64 p.a).wf = true ∧ (Lit.int .i64 p.b).wf = true ∧ (Lit.int .i64 p.c).wf = true ∧ (Lit.int .i64 p.d).wf = true := by
  obtain ⟨h1, h2⟩ := sh_struct Tryd.underlying174 h
  rw [cl_lk] at h1
  obtain ⟨a0, a1, a2, a3, rfl⟩ := ln_lk h1
  simp [clI, clB, clS] at h2
  obtain ⟨g0, g1, g2, g3⟩ := h2
  obtain ⟨m0, w0, e0⟩ := sh_int Tryd.underlying3 g0
  obtain ⟨m1, w1, e1⟩ := sh_int Tryd.underlying3 g1
  obtain ⟨m2, w2, e2⟩ := sh_int Tryd.underlying3 g2
  obtain ⟨m3, w3, e3⟩ := sh_int Tryd.underlying3 g3
  cases e0; cases e1; cases e2; cases e3
  exact ⟨⟨m0, m1, m2, m3⟩, rfl, w0, w1, w2, w3⟩
theorem cl_op : Tryd.prog.cellsOf 166 = 4 := by kernel_rfl
theorem by_op : Tryd.prog.bytesOf 166 = 32 := by kernel_rfl
theorem ln_op {α : Type} {l : List α} (h : l.length = 4) : ∃ a0 a1 a2 a3, l = [a0, a1, a2, a3] := by
  match l, h with
  | [a0, a1, a2, a3], _ => exact ⟨_, _, _, _, rfl⟩
set_option maxRecDepth 100000 in
theorem sh_op {n : Nat} {r : List V} (h : Sh Tryd.prog (n + 2) 166 r) : ∃ p : Q4, r = q4R p ∧ (Lit.int .i64 p.a).wf = true ∧ (Lit.int .i64 p.b).wf = true ∧ (Lit.int .i64 p.c).wf = true ∧ (Lit.int .i64 p.d).wf = true := by
  obtain ⟨h1, h2⟩ := sh_struct Tryd.underlying166 h
  rw [cl_op] at h1
  obtain ⟨a0, a1, a2, a3, rfl⟩ := ln_op h1
  simp [clI, clB, clS] at h2
  obtain ⟨g0, g1, g2, g3⟩ := h2
  obtain ⟨m0, w0, e0⟩ := sh_int Tryd.underlying3 g0
  obtain ⟨m1, w1, e1⟩ := sh_int Tryd.underlying3 g1
  obtain ⟨m2, w2, e2⟩ := sh_int Tryd.underlying3 g2
  obtain ⟨m3, w3, e3⟩ := sh_int Tryd.underlying3 g3
  cases e0; cases e1; cases e2; cases e3
  exact ⟨⟨m0, m1, m2, m3⟩, rfl, w0, w1, w2, w3⟩
theorem cl_in : Tryd.prog.cellsOf 176 = 4 := by kernel_rfl
theorem by_in : Tryd.prog.bytesOf 176 = 40 := by kernel_rfl
theorem ln_in {α : Type} {l : List α} (h : l.length = 4) : ∃ a0 a1 a2 a3, l = [a0, a1, a2, a3] := by
  match l, h with
  | [a0, a1, a2, a3], _ => exact ⟨_, _, _, _, rfl⟩
set_option maxRecDepth 100000 in
theorem sh_in {n : Nat} {r : List V} (h : Sh Tryd.prog (n + 2) 176 r) : ∃ p : In, r = inpR p ∧ (Lit.int .i64 p.p).wf = true ∧ (Lit.int .i64 p.f).wf = true ∧ (Lit.int .i64 p.q).wf = true ∧ p.d.size ≤ reachBytes := by
  obtain ⟨h1, h2⟩ := sh_struct Tryd.underlying176 h
  rw [cl_in] at h1
  obtain ⟨a0, a1, a2, a3, rfl⟩ := ln_in h1
  simp [clI, clB, clS] at h2
  obtain ⟨g0, g1, g2, g3⟩ := h2
  obtain ⟨m0, w0, e0⟩ := sh_int Tryd.underlying3 g0
  obtain ⟨m1, w1, e1⟩ := sh_int Tryd.underlying3 g1
  obtain ⟨m2, w2, e2⟩ := sh_int Tryd.underlying3 g2
  obtain ⟨m3, w3, e3⟩ := sh_str Tryd.underlying9 g3
  cases e0; cases e1; cases e2; cases e3
  exact ⟨⟨m0, m1, m2, m3⟩, rfl, w0, w1, w2, w3⟩
set_option maxRecDepth 100000 in
theorem sh_n {n : Nat} {r : List V} (h : Sh Tryd.prog (n + 2) 3 r) : ∃ m : Int, r = iR m ∧ (Lit.int .i64 m).wf = true := by
  obtain ⟨m, hm, rfl⟩ := sh_int Tryd.underlying3 h
  exact ⟨m, rfl, hm⟩
theorem cl_n : Tryd.prog.cellsOf 3 = 1 := clI
set_option maxRecDepth 100000 in
theorem sl_pg {n : Nat} {l : List V} (h : Sh Tryd.prog (n + 3) 160 l) : ∃ (x : V) (ps : List Pg), l = [x] ∧ Sls x 2 (ps.map pgR) ∧ ps.length ≤ maxLen ∧ ps.length * Tryd.prog.bytesOf 182 ≤ reachBytes ∧ ∀ p ∈ ps, (Lit.int .i64 p.r).wf = true ∧ p.s.size ≤ reachBytes := by
  obtain ⟨z, r, e, s, l, b, q⟩ := sh_slice Tryd.underlying160 h
  obtain ⟨ps, rfl, w⟩ := choose_map (f := pgR) fun r hr => sh_pg (q r hr)
  rw [cl_pg] at s
  rw [List.length_map] at l b
  exact ⟨z, ps, e, s, l, b, w⟩
set_option maxRecDepth 100000 in
theorem sl_pc {n : Nat} {l : List V} (h : Sh Tryd.prog (n + 3) 161 l) : ∃ (x : V) (ps : List Pc), l = [x] ∧ Sls x 3 (ps.map pcR) ∧ ps.length ≤ maxLen ∧ ps.length * Tryd.prog.bytesOf 242 ≤ reachBytes ∧ ∀ p ∈ ps, (Lit.int .i64 p.e).wf = true ∧ (Lit.int .i64 p.p).wf = true := by
  obtain ⟨z, r, e, s, l, b, q⟩ := sh_slice Tryd.underlying161 h
  obtain ⟨ps, rfl, w⟩ := choose_map (f := pcR) fun r hr => sh_pc (q r hr)
  rw [cl_pc] at s
  rw [List.length_map] at l b
  exact ⟨z, ps, e, s, l, b, w⟩
set_option maxRecDepth 100000 in
theorem sl_pt {n : Nat} {l : List V} (h : Sh Tryd.prog (n + 3) 162 l) : ∃ (x : V) (ps : List Pt), l = [x] ∧ Sls x 4 (ps.map ptR) ∧ ps.length ≤ maxLen ∧ ps.length * Tryd.prog.bytesOf 184 ≤ reachBytes ∧ ∀ p ∈ ps, (Lit.int .i64 p.k).wf = true ∧ (Lit.int .i64 p.z).wf = true ∧ (Lit.int .i64 p.d).wf = true ∧ (Lit.int .i64 p.f).wf = true := by
  obtain ⟨z, r, e, s, l, b, q⟩ := sh_slice Tryd.underlying162 h
  obtain ⟨ps, rfl, w⟩ := choose_map (f := ptR) fun r hr => sh_pt (q r hr)
  rw [cl_pt] at s
  rw [List.length_map] at l b
  exact ⟨z, ps, e, s, l, b, w⟩
set_option maxRecDepth 100000 in
theorem sl_wn {n : Nat} {l : List V} (h : Sh Tryd.prog (n + 3) 59 l) : ∃ (x : V) (ps : List Wn), l = [x] ∧ Sls x 3 (ps.map wnR) ∧ ps.length ≤ maxLen ∧ ps.length * Tryd.prog.bytesOf 171 ≤ reachBytes ∧ ∀ p ∈ ps, (Lit.int .i64 p.p).wf = true ∧ (Lit.int .i64 p.s).wf = true ∧ (Lit.int .i64 p.l).wf = true := by
  obtain ⟨z, r, e, s, l, b, q⟩ := sh_slice Tryd.underlying59 h
  obtain ⟨ps, rfl, w⟩ := choose_map (f := wnR) fun r hr => sh_wn (q r hr)
  rw [cl_wn] at s
  rw [List.length_map] at l b
  exact ⟨z, ps, e, s, l, b, w⟩
set_option maxRecDepth 100000 in
theorem sl_lk {n : Nat} {l : List V} (h : Sh Tryd.prog (n + 3) 60 l) : ∃ (x : V) (ps : List Q4), l = [x] ∧ Sls x 4 (ps.map q4R) ∧ ps.length ≤ maxLen ∧ ps.length * Tryd.prog.bytesOf 174 ≤ reachBytes ∧ ∀ p ∈ ps, (Lit.int .i64 p.a).wf = true ∧ (Lit.int .i64 p.b).wf = true ∧ (Lit.int .i64 p.c).wf = true ∧ (Lit.int .i64 p.d).wf = true := by
  obtain ⟨z, r, e, s, l, b, q⟩ := sh_slice Tryd.underlying60 h
  obtain ⟨ps, rfl, w⟩ := choose_map (f := q4R) fun r hr => sh_lk (q r hr)
  rw [cl_lk] at s
  rw [List.length_map] at l b
  exact ⟨z, ps, e, s, l, b, w⟩
set_option maxRecDepth 100000 in
theorem sl_op {n : Nat} {l : List V} (h : Sh Tryd.prog (n + 3) 64 l) : ∃ (x : V) (ps : List Q4), l = [x] ∧ Sls x 4 (ps.map q4R) ∧ ps.length ≤ maxLen ∧ ps.length * Tryd.prog.bytesOf 166 ≤ reachBytes ∧ ∀ p ∈ ps, (Lit.int .i64 p.a).wf = true ∧ (Lit.int .i64 p.b).wf = true ∧ (Lit.int .i64 p.c).wf = true ∧ (Lit.int .i64 p.d).wf = true := by
  obtain ⟨z, r, e, s, l, b, q⟩ := sh_slice Tryd.underlying64 h
  obtain ⟨ps, rfl, w⟩ := choose_map (f := q4R) fun r hr => sh_op (q r hr)
  rw [cl_op] at s
  rw [List.length_map] at l b
  exact ⟨z, ps, e, s, l, b, w⟩
set_option maxRecDepth 100000 in
theorem sl_in {n : Nat} {l : List V} (h : Sh Tryd.prog (n + 3) 63 l) : ∃ (x : V) (ps : List In), l = [x] ∧ Sls x 4 (ps.map inpR) ∧ ps.length ≤ maxLen ∧ ps.length * Tryd.prog.bytesOf 176 ≤ reachBytes ∧ ∀ p ∈ ps, (Lit.int .i64 p.p).wf = true ∧ (Lit.int .i64 p.f).wf = true ∧ (Lit.int .i64 p.q).wf = true ∧ p.d.size ≤ reachBytes := by
  obtain ⟨z, r, e, s, l, b, q⟩ := sh_slice Tryd.underlying63 h
  obtain ⟨ps, rfl, w⟩ := choose_map (f := inpR) fun r hr => sh_in (q r hr)
  rw [cl_in] at s
  rw [List.length_map] at l b
  exact ⟨z, ps, e, s, l, b, w⟩
set_option maxRecDepth 100000 in
theorem sl_n {n : Nat} {l : List V} (h : Sh Tryd.prog (n + 3) 23 l) : ∃ (x : V) (ps : List Int), l = [x] ∧ Sls x 1 (ps.map iR) ∧ ps.length ≤ maxLen ∧ ps.length * Tryd.prog.bytesOf 3 ≤ reachBytes ∧ ∀ p ∈ ps, (Lit.int .i64 p).wf = true := by
  obtain ⟨z, r, e, s, l, b, q⟩ := sh_slice Tryd.underlying23 h
  obtain ⟨ps, rfl, w⟩ := choose_map (f := iR) fun r hr => sh_n (q r hr)
  rw [cl_n] at s
  rw [List.length_map] at l b
  exact ⟨z, ps, e, s, l, b, w⟩
theorem ln7 {α : Type} {l : List α} (h : l.length = 7) : ∃ a0 a1 a2 a3 a4 a5 a6, l = [a0, a1, a2, a3, a4, a5, a6] := by
  match l, h with
  | [a0, a1, a2, a3, a4, a5, a6], _ => exact ⟨_, _, _, _, _, _, _, rfl⟩
theorem ln8 {α : Type} {l : List α} (h : l.length = 8) : ∃ a0 a1 a2 a3 a4 a5 a6 a7, l = [a0, a1, a2, a3, a4, a5, a6, a7] := by
  match l, h with
  | [a0, a1, a2, a3, a4, a5, a6, a7], _ => exact ⟨_, _, _, _, _, _, _, _, rfl⟩
theorem cl_plan : Tryd.prog.cellsOf 164 = 7 := by kernel_rfl
theorem by_plan : Tryd.prog.bytesOf 164 = 120 := by kernel_rfl
theorem cl_cfg : Tryd.prog.cellsOf 62 = 6 := by kernel_rfl
theorem cl_scr : Tryd.prog.cellsOf 66 = 8 := by kernel_rfl
theorem cl_pgs : Tryd.prog.cellsOf 160 = 1 := by kernel_rfl
theorem cl_pcs : Tryd.prog.cellsOf 161 = 1 := by kernel_rfl
theorem cl_pts : Tryd.prog.cellsOf 162 = 1 := by kernel_rfl
theorem cl_ns : Tryd.prog.cellsOf 23 = 1 := by kernel_rfl
theorem cl_pls : Tryd.prog.cellsOf 58 = 1 := by kernel_rfl
theorem cl_wns : Tryd.prog.cellsOf 59 = 1 := by kernel_rfl
theorem cl_lks : Tryd.prog.cellsOf 60 = 1 := by kernel_rfl
theorem cl_ins : Tryd.prog.cellsOf 63 = 1 := by kernel_rfl
theorem cl_ops : Tryd.prog.cellsOf 64 = 1 := by kernel_rfl
set_option maxRecDepth 100000 in
theorem reach_room {n : Nat} (h : n ≤ reachBytes) : n ≤ room := Nat.le_trans h (of_decide_eq_true (by kernel_rfl))
structure FitP (p : Pl) : Prop where
  b : PlB p
  fit : p.pgs.length * 24 ≤ room ∧ p.prs.length * 24 ≤ room ∧ p.pts.length * 32 ≤ room ∧ p.sems.length * 8 ≤ room
set_option maxRecDepth 100000 in
theorem sh_plan {n : Nat} {r : List V} (h : Sh Tryd.prog (n + 4) 164 r) : ∃ p : Pl, PlS r p ∧ FitP p ∧ PlW p := by
  obtain ⟨h1, h2⟩ := sh_struct Tryd.underlying164 h
  rw [cl_plan] at h1
  obtain ⟨a0, a1, a2, a3, a4, a5, a6, rfl⟩ := ln7 h1
  simp [clI, clB, cl_pgs, cl_pcs, cl_pts, cl_ns] at h2
  obtain ⟨g0, g1, g2, g3, g4, g5, g6⟩ := h2
  obtain ⟨m0, w0, e0⟩ := sh_int Tryd.underlying3 g0
  obtain ⟨m1, e1⟩ := sh_bool Tryd.underlying4 g1
  obtain ⟨x2, l2, e2, s2, q2, f2, v2⟩ := sl_pg g2
  obtain ⟨x3, l3, e3, s3, q3, f3, v3⟩ := sl_pc g3
  obtain ⟨x4, l4, e4, s4, q4, f4, v4⟩ := sl_pt g4
  obtain ⟨m5, w5, e5⟩ := sh_int Tryd.underlying3 g5
  obtain ⟨x6, l6, e6, s6, q6, f6, v6⟩ := sl_n g6
  rw [by_pg] at f2
  rw [by_pc] at f3
  rw [by_pt] at f4
  rw [byI] at f6
  cases e0; cases e1; cases e2; cases e3; cases e4; cases e5; cases e6
  have mb : maxLen ≤ 9223372036854775807 := by decide
  exact ⟨⟨m0, m1, l2, l3, l4, m5, l6⟩, ⟨_, _, _, _, rfl, s2, s3, s4, s6⟩, ⟨⟨Nat.le_trans q2 mb, Nat.le_trans q4 mb⟩, reach_room f2, reach_room f3, reach_room f4, reach_room f6⟩,
    ⟨fun c hc => ⟨wf_inR (v3 c hc).1, wf_inR (v3 c hc).2⟩, fun q hq => ⟨wf_inR (v4 q hq).1, wf_inR (v4 q hq).2.1, wf_inR (v4 q hq).2.2.1, wf_inR (v4 q hq).2.2.2⟩, wf_inR w5, fun m hm => wf_inR (v6 m hm)⟩⟩
theorem q4_rng {q : Q4} (h : (Lit.int .i64 q.a).wf = true ∧ (Lit.int .i64 q.b).wf = true ∧ (Lit.int .i64 q.c).wf = true ∧ (Lit.int .i64 q.d).wf = true) : Rng q := fun j => by
  match j with
  | 0 => exact wf_inR h.1
  | 1 => exact wf_inR h.2.1
  | 2 => exact wf_inR h.2.2.1
  | 3 => exact wf_inR h.2.2.2
  | j + 4 => exact ⟨by simp [q4L], by simp [q4L]⟩
theorem choose_rel {α β : Type} {R : β → α → Prop} {W : α → Prop} : ∀ {l : List β}, (∀ r ∈ l, ∃ p, R r p ∧ W p) → ∃ ps : List α, ∃ e : l.length = ps.length, (∀ (j : Nat) (hj : j < l.length), R l[j] (ps[j]'(by rw [← e]; exact hj))) ∧ ∀ p ∈ ps, W p
  | [], _ => ⟨[], rfl, fun j hj => absurd hj (Nat.not_lt_zero _), by simp⟩
  | r :: l, h => by
    obtain ⟨p, hp, hw⟩ := h r (by simp)
    obtain ⟨ps, e, h1, h2⟩ := choose_rel (l := l) fun r hr => h r (by simp [hr])
    refine ⟨p :: ps, by simp [e], fun j hj => ?_, by simpa using ⟨hw, h2⟩⟩
    cases j with
    | zero => exact hp
    | succ j => exact h1 j (by simpa using hj)
set_option maxRecDepth 100000 in
theorem sh_script {n : Nat} {l : List V} (h : Sh Tryd.prog (n + 7) 66 l) : ∃ s ps hs ws ks is os rows, ScS l s ps hs ws ks is os rows ∧ Fits s ∧ ScW s := by
  obtain ⟨h1, h2⟩ := sh_struct Tryd.underlying66 h
  rw [cl_scr] at h1
  obtain ⟨a0, a1, a2, a3, a4, a5, a6, a7, rfl⟩ := ln8 h1
  simp [cl_cfg, cl_ins, cl_ops] at h2
  obtain ⟨g, g6, g7⟩ := h2
  obtain ⟨_, h3⟩ := sh_struct Tryd.underlying62 g
  simp [clI, cl_pls, cl_ns, cl_wns, cl_lks] at h3
  obtain ⟨g0, g1, g2, g3, g4, g5⟩ := h3
  obtain ⟨m0, w0, e0⟩ := sh_int Tryd.underlying3 g0
  obtain ⟨x1, rows, e1, s1, q1, f1, r1⟩ := sh_slice Tryd.underlying58 g1
  obtain ⟨x2, l2, e2, s2, q2, f2, v2⟩ := sl_n g2
  obtain ⟨x3, l3, e3, s3, q3, f3, v3⟩ := sl_wn g3
  obtain ⟨x4, l4, e4, s4, q4, f4, v4⟩ := sl_lk g4
  obtain ⟨m5, w5, e5⟩ := sh_int Tryd.underlying3 g5
  obtain ⟨x6, l6, e6, s6, q6, f6, v6⟩ := sl_in g6
  obtain ⟨x7, l7, e7, s7, q7, f7, v7⟩ := sl_op g7
  obtain ⟨ps, el, hr, hw⟩ := choose_rel fun r hr => sh_plan (r1 r hr)
  rw [cl_plan] at s1
  rw [by_plan, el] at f1
  rw [byI] at f2
  rw [by_wn] at f3
  rw [by_lk] at f4
  rw [by_in] at f6
  rw [by_op] at f7
  rw [el] at q1
  cases e0; cases e1; cases e2; cases e3; cases e4; cases e5; cases e6; cases e7
  have mb : maxLen ≤ 9223372036854775807 := by decide
  exact ⟨⟨m0, ps, l2, l3, l4, m5, l6, l7⟩, _, _, _, _, _, _, rows, ⟨rfl, s1, s2, s3, s4, s6, s7, el, hr, Nat.le_trans q1 mb, fun p hp => (hw p hp).1.b⟩,
    ⟨reach_room f2, reach_room f3, reach_room f4, reach_room f6, reach_room f7, reach_room f1, fun p hp => (hw p hp).1.fit⟩,
    ⟨wf_inR w0, wf_inR w5, fun p hp => (hw p hp).2, fun m hm => wf_inR (v2 m hm), fun w hm => ⟨wf_inR (v3 w hm).1, wf_inR (v3 w hm).2.1, wf_inR (v3 w hm).2.2⟩, fun q hq => q4_rng (v4 q hq), fun x hx => ⟨wf_inR (v6 x hx).1, wf_inR (v6 x hx).2.1, wf_inR (v6 x hx).2.2.1⟩, fun q hq => q4_rng (v7 q hq)⟩⟩
theorem argVScr (l : List V) : argV Tryd.prog 66 l = .agg l := by
  unfold argV
  rw [Tryd.underlying66]
theorem inScr : inTy Tryd.prog 7 66 = true := by kernel_rfl
section
variable {P : Program} {n : Nat}
theorem shs1 {t1 : TypeId} {xs : List V} (h : Shs P n [t1] xs) : ∃ a, xs = [a] ∧ ∃ l, Sh P n t1 l ∧ a = argV P t1 l := by
  cases xs with
  | nil => exact h.elim
  | cons a xs => cases xs with
    | nil => exact ⟨a, rfl, h.1⟩
    | cons b xs => exact h.2.elim
end
end Go.Proofs.YtoogammidjhfgaaDoor
