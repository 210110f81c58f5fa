/-
  The shape of a state as an argument. By an AI agent; no person has read it.
-/
import Derived.Test.YtjjiphigolegbaaDoorFvW8
import Derived.Test.YtjjiphigolegbaaDoorFvSuE
set_option linter.unusedVariables false
set_option linter.unusedSimpArgs false
set_option linter.unusedSectionVars false
/-! The shape of a state as an argument. -/
namespace Go.Proofs.YtjjiphigolegbaaDoor
open Go Go.Fv Go.Fv.Pl Go.Fv.Tr Go.ChangeShapes Go.WideShapes Go.RowKit

theorem cl_b : Tryd.prog.cellsOf 4 = 1 := by kernel_rfl
theorem cl_port : Tryd.prog.cellsOf 60 = 2 := by kernel_rfl
theorem cl_page : Tryd.prog.cellsOf 57 = 66 := by kernel_rfl
theorem cl_data : Tryd.prog.cellsOf 55 = 64 := by kernel_rfl
theorem cl_u8 : Tryd.prog.cellsOf 5 = 1 := by kernel_rfl
theorem cl_state : Tryd.prog.cellsOf 48 = 10 := by kernel_rfl
theorem cl_bools : Tryd.prog.cellsOf 44 = 1 := by kernel_rfl
theorem cl_ports : Tryd.prog.cellsOf 45 = 1 := by kernel_rfl
theorem cl_pages : Tryd.prog.cellsOf 46 = 1 := by kernel_rfl
theorem cl_strs : Tryd.prog.cellsOf 58 = 1 := by kernel_rfl
theorem by_b : Tryd.prog.bytesOf 4 = 1 := by kernel_rfl
theorem by_s : Tryd.prog.bytesOf 9 = 16 := by kernel_rfl
theorem by_port : Tryd.prog.bytesOf 60 = 32 := by kernel_rfl
theorem by_page : Tryd.prog.bytesOf 57 = 80 := by kernel_rfl
set_option maxRecDepth 100000 in
theorem reach_room {n : Nat} (h : n ≤ reachBytes) : n ≤ room := Nat.le_trans h (of_decide_eq_true (by kernel_rfl))
theorem ln10 {α : Type} {l : List α} (h : l.length = 10) : ∃ a0 a1 a2 a3 a4 a5 a6 a7 a8 a9, l = [a0, a1, a2, a3, a4, a5, a6, a7, a8, a9] := by
  match l, h with
  | [a0, a1, a2, a3, a4, a5, a6, a7, a8, a9], _ => exact ⟨_, _, _, _, _, _, _, _, _, _, rfl⟩
set_option maxRecDepth 100000 in
theorem sh_bo {n : Nat} {r : List V} (h : Sh Tryd.prog (n + 1) 4 r) : ∃ b : Bool, r = boR b ∧ True := by
  obtain ⟨b, rfl⟩ := sh_bool Tryd.underlying4 h
  exact ⟨b, rfl, trivial⟩
set_option maxRecDepth 100000 in
theorem sh_st {n : Nat} {r : List V} (h : Sh Tryd.prog (n + 1) 9 r) : ∃ s : ByteArray, r = stR s ∧ True := by
  obtain ⟨s, _, rfl⟩ := sh_str Tryd.underlying9 h
  exact ⟨s, rfl, trivial⟩
set_option maxRecDepth 100000 in
theorem sh_pa {n : Nat} {r : List V} (h : Sh Tryd.prog (n + 3) 57 r) : ∃ p : Pa, r = paR p ∧ p.data.length = 64 := by
  obtain ⟨h1, h2⟩ := sh_struct Tryd.underlying57 h
  rw [cl_page] at h1
  simp [cells3, cl_b, cl_data] at h2
  obtain ⟨g0, g1, g2⟩ := h2
  obtain ⟨m, _, e0⟩ := sh_int Tryd.underlying3 g0
  obtain ⟨b, e1⟩ := sh_bool Tryd.underlying4 g1
  obtain ⟨data, l2, e2, _⟩ := sh_ints Tryd.underlying55 Tryd.underlying5 cl_u8 cl_data g2
  refine ⟨⟨m, b, data⟩, ?_, l2⟩
  have split : r = r.take 1 ++ (r.drop 1).take 1 ++ (r.drop 2).take 64 := by
    conv => lhs; rw [← List.take_append_drop 1 r, ← List.take_append_drop 1 (r.drop 1), List.drop_drop]
    rw [List.take_of_length_le (l := r.drop 2) (by simp; omega), List.append_assoc]
  have e1' : (r.drop 1).take 1 = [.bool b] := by rw [List.drop_one]; exact e1
  rw [split, e0, e1', e2]
  rfl
structure PoB (p : Po) : Prop where
  m : p.msgs.length * 16 ≤ room ∧ p.msgs.length ≤ big
set_option maxRecDepth 100000 in
theorem sh_po {n : Nat} {r : List V} (h : Sh Tryd.prog (n + 3) 60 r) : ∃ p : Po, (∃ m, r = [m, i64 p.age] ∧ Sls m 1 (p.msgs.map stR)) ∧ PoB p := by
  obtain ⟨h1, h2⟩ := sh_struct Tryd.underlying60 h
  rw [cl_port] at h1
  obtain ⟨a0, a1, rfl⟩ := len2 h1
  simp [cells3, cl_strs] at h2
  obtain ⟨g0, g1⟩ := h2
  obtain ⟨z, rs, e, s, l, b, q⟩ := sh_slice Tryd.underlying58 g0
  obtain ⟨ms, rfl, _⟩ := choose_map (f := stR) fun r hr => sh_st (q r hr)
  obtain ⟨m, _, e1⟩ := sh_int Tryd.underlying3 g1
  rw [cells9] at s
  rw [by_s] at b
  rw [List.length_map] at l b
  cases e; cases e1
  exact ⟨⟨ms, m⟩, ⟨_, rfl, s⟩, ⟨reach_room b, l⟩⟩
theorem choose_rel {α β : Type} {R : β → α → Prop} {W : α → Prop} : ∀ {l : List β}, (∀ r ∈ l, ∃ p, R r p ∧ W p) → ∃ ps : List α, ∃ e : l.length = ps.length, (∀ (j : Nat) (hj : j < l.length), R l[j] (ps[j]'(by rw [← e]; exact hj))) ∧ ∀ p ∈ ps, W p
  | [], _ => ⟨[], rfl, fun j hj => absurd hj (Nat.not_lt_zero _), by simp⟩
  | r :: l, h => by
    obtain ⟨p, hp, hw⟩ := h r (by simp)
    obtain ⟨ps, e, h1, h2⟩ := choose_rel (l := l) fun r hr => h r (by simp [hr])
    refine ⟨p :: ps, by simp [e], fun j hj => ?_, by simpa using ⟨hw, h2⟩⟩
    cases j with
    | zero => exact hp
    | succ j => exact h1 j (by simpa using hj)
theorem tb_of {t : Tab} (hw : WfTab t) (hb : t.ps.length ≤ big ∧ t.q.length ≤ big ∧ t.ts.length ≤ big) : TB t :=
  ⟨fun p hp => (hw.ps p hp).len, hb, reach_room hw.rp, reach_room hw.rq, reach_room hw.rs⟩
set_option maxRecDepth 100000 in
theorem sh_state {n : Nat} {l : List V} (h : Sh Tryd.prog (n + 6) 48 l) : ∃ s x y z a b c d pr, (∀ H, RdSt H (fun _ => False) l s x y z a b c d pr) ∧ SB s := by
  obtain ⟨h1, h2⟩ := sh_struct Tryd.underlying48 h
  rw [cl_state] at h1
  obtain ⟨a0, a1, a2, a3, a4, a5, a6, a7, a8, a9, rfl⟩ := ln10 h1
  simp [cells3, cells22, cells23, cells24, cl_bools, cl_ports, cl_pages] at h2
  obtain ⟨g0, g1, g2, g3, g4, g5, g6, g7, g8, g9⟩ := h2
  obtain ⟨m0, _, e0⟩ := sh_int Tryd.underlying3 g0
  obtain ⟨m1, _, e1⟩ := sh_int Tryd.underlying3 g1
  obtain ⟨m2, _, e2⟩ := sh_int Tryd.underlying3 g2
  obtain ⟨x3, r3, e3, s3, l3, b3, q3⟩ := sh_slice Tryd.underlying22 g3
  obtain ⟨x4, r4, e4, s4, l4, b4, q4⟩ := sh_slice Tryd.underlying23 g4
  obtain ⟨x5, r5, e5, s5, l5, b5, q5⟩ := sh_slice Tryd.underlying24 g5
  obtain ⟨x6, r6, e6, s6, l6, b6, q6⟩ := sh_slice Tryd.underlying44 g6
  obtain ⟨x7, r7, e7, s7, l7, b7, q7⟩ := sh_slice Tryd.underlying23 g7
  obtain ⟨x8, r8, e8, s8, l8, b8, q8⟩ := sh_slice Tryd.underlying45 g8
  obtain ⟨x9, r9, e9, s9, l9, b9, q9⟩ := sh_slice Tryd.underlying46 g9
  obtain ⟨ps, rfl, w3⟩ := choose_map (f := prRow) fun r hr => sh_pr (q3 r hr)
  obtain ⟨q, rfl, w4⟩ := choose_map (f := intRow) fun r hr => sh_ir (q4 r hr)
  obtain ⟨ts, rfl, w5⟩ := choose_map (f := tmRow) fun r hr => sh_tm (q5 r hr)
  obtain ⟨up, rfl, w6⟩ := choose_map (f := boR) fun r hr => sh_bo (q6 r hr)
  obtain ⟨sm, rfl, w7⟩ := choose_map (f := intRow) fun r hr => sh_ir (q7 r hr)
  obtain ⟨pos, el, pr, wp⟩ := choose_rel fun r hr => sh_po (q8 r hr)
  obtain ⟨pas, rfl, w9⟩ := choose_map (f := paR) fun r hr => sh_pa (q9 r hr)
  rw [cells32] at s3
  rw [cells3] at s4 s7
  rw [cells82] at s5
  rw [cl_b] at s6
  rw [cl_port] at s8
  rw [cl_page] at s9
  rw [List.length_map] at l3 l4 l5 l6 l7 l9 b3 b4 b5 b6 b7 b9
  rw [bytes32] at b3
  rw [bytes3] at b4 b7
  rw [bytes82] at b5
  rw [by_b] at b6
  rw [by_port] at b8
  rw [by_page] at b9
  rw [el] at l8 b8
  cases e0; cases e1; cases e2; cases e3; cases e4; cases e5; cases e6; cases e7; cases e8; cases e9
  refine ⟨⟨m0, m1, m2, ⟨ps, q, ts⟩, up, sm, pos, pas⟩, a3, a4, a5, a6, a7, a8, a9, r8, fun H => ⟨rfl, ⟨.sls s3, .sls s4, .sls s5, fun l e => loc_sls s3 e, fun l e => loc_sls s4 e, fun l e => loc_sls s5 e⟩, .sls s6, .sls s7, .sls s8, .sls s9, el, fun j hj => ?_, fun l e => loc_sls s6 e, fun l e => loc_sls s7 e, fun l e => loc_sls s8 e, fun l e => loc_sls s9 e⟩,
    ⟨fun p hp => (w3 p hp).len, ⟨l3, l4, l5⟩, reach_room b3, reach_room b4, reach_room b5⟩, ⟨reach_room b6, l6⟩, ⟨reach_room b7, l7⟩, ⟨reach_room b8, l8⟩, ⟨reach_room b9, l9⟩, fun p hp => (wp p hp).m, w9⟩
  obtain ⟨m, e, hm⟩ := pr j hj
  exact ⟨m, e, .sls hm, fun l e => loc_sls hm e⟩
theorem argVSt (l : List V) : argV Tryd.prog 48 l = .agg l := by
  unfold argV
  rw [Tryd.underlying48]
theorem inSt : inTy Tryd.prog 6 48 = true := by kernel_rfl
theorem in26' : inTy Tryd.prog 6 26 = true := by kernel_rfl
theorem tab_rd {x y z : V} {t : Tab} (h : IsTab x y z t) : ∀ H, RdTab H (fun _ => False) x y z t := fun H => h.rd
end Go.Proofs.YtjjiphigolegbaaDoor
