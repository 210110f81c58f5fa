/-
  What all laws of the seat share: closed facts, the sentinels, the arguments' shapes. The shapes of lists of timers and of numbers as arguments. By an AI agent; no person has read it.
-/
import Derived.Test.YtjjiphigolegbaaDoorFvW4
import Derived.Test.YtjjiphigolegbaaDoorFvSpA
import Derived.Test.YtjjiphigolegbaaDoorRows
import Derived.Test.YtjjiphigolegbaaDoorTie
import Derived.Test.YtjjiphigolegbaaDoorCards
import Derived.ChangeSame
import Derived.ChangeVars
import Derived.JoinedOf
import Derived.RowKit
import Derived.RowKitTokens
import Derived.LaidLaws
import Derived.LaidHandle
import Derived.Stop.Joined
import Derived.SevenTiedAt
set_option linter.unusedVariables false
set_option linter.unusedSimpArgs false
set_option linter.unusedSectionVars false
/-! What all laws of the seat share: closed facts, the sentinels, the arguments' shapes. -/
namespace Go.Proofs.YtjjiphigolegbaaDoor
open Go Go.Fv Go.Fv.Pl Go.Fv.Tr Go.ChangeShapes Go.WideShapes Go.RowKit

theorem own : ownKnob Tryd.prog.godebug = none := by kernel_rfl
theorem kids : Kids Tryd.prog (· < Tryd.prog.types.size) := kids_rows (by kernel_rfl) (by kernel_rfl)
theorem full : ∀ t e, t < Tryd.prog.types.size → Tryd.prog.underlying t = some (.slice e) → 0 < Tryd.prog.cellsOf e := slices_full_of Tryd.prog (by kernel_rfl)
theorem star : "*" ++ "errors.errorString" = "*errors.errorString" := by decide
theorem row251 (u : TypeId) (h : Tryd.prog.typeName? 3 u = some "*errors.errorString") : u = 251 :=
  typeName_ptr_named (nm := "errors.errorString") (by rw [star]; kernel_rfl) (by kernel_rfl) (by decide) u (by rw [star]; exact h)
theorem cells270 : Tryd.prog.cellsOf 270 = 1 := by kernel_rfl
theorem cells9 : Tryd.prog.cellsOf 9 = 1 := by kernel_rfl

/-- A sentinel's variable. -/
theorem sent {laid : List (String × DataW Unit)} {W : World} (hm : laidMet Tryd.prog laid W) {name : String} {text : List UInt8} (hx : (name, DataW.iface "*errors.errorString" (.ptr (.agg [.lit (.string text)]))) ∈ laid)
    {g : Nat} (hg : Tryd.prog.globalNamed name = some g) (ht : (Tryd.prog.globals[g]?).map (·.type) = some 37) : ∃ a, W.cell? ⟨g, 0, none⟩ = some (.iface 251 (.pointer (some a))) ∧ (∃ s : ByteArray, W.cell? a = some (.string s) ∧ s.data.toList = text) ∧ ∃ cs t, W.heap[a.block]? = some (Obj.cells cs t (0, 0)) :=
  sentinel_cell hm hx hg ht Tryd.underlying37 row251 Tryd.underlying251 Tryd.underlying270 rfl rfl Tryd.underlying9 cells270 cells9

theorem block_lt {W : World} {g : Nat} {v : Value} (h : W.cell? ⟨g, 0, none⟩ = some v) : g < W.heap.size := World.block_lt_of_cell? W _ h
theorem sent_rel {σ : Nat → Addr} {W : World} {g : Nat} (h : W.cell? ⟨g, 0, none⟩ = some (.iface 251 (.pointer (some (σ g))))) : Rel σ (K0 W) W (.iptr [errV g] 0) (.pointer (some ⟨g, 0, none⟩)) := by
  have hx : Rel σ (K0 W) W (errV g) (.iface 251 (.pointer (some (σ g)))) := .iface 251 (.ext g) _ rfl (.ext g)
  refine .iptr [errV g] 0 g 0 (fun _ => .iface 251 (.pointer (some (σ g)))) (block_lt h) (fun c hc => ?_) (fun j c hj => ?_) (fun j c hj => ?_)
  · rw [List.mem_singleton] at hc; subst hc; rfl
  · cases j with
    | zero => exact h
    | succ j => simp at hj
  · cases j with
    | zero => simp at hj; subst hj; exact hx
    | succ j => simp at hj

/-! ### Tables -/
theorem cells3 : Tryd.prog.cellsOf 3 = 1 := by kernel_rfl
theorem cells29 : Tryd.prog.cellsOf 29 = 1 := by kernel_rfl
theorem cells30 : Tryd.prog.cellsOf 30 = 16 := by kernel_rfl
theorem cells32 : Tryd.prog.cellsOf 32 = 21 := by kernel_rfl
theorem cells82 : Tryd.prog.cellsOf 82 = 2 := by kernel_rfl
theorem cells22 : Tryd.prog.cellsOf 22 = 1 := by kernel_rfl
theorem cells23 : Tryd.prog.cellsOf 23 = 1 := by kernel_rfl
theorem cells24 : Tryd.prog.cellsOf 24 = 1 := by kernel_rfl
theorem cells26 : Tryd.prog.cellsOf 26 = 3 := by kernel_rfl
theorem bytes32 : Tryd.prog.bytesOf 32 = 104 := by kernel_rfl
theorem bytes3 : Tryd.prog.bytesOf 3 = 8 := by kernel_rfl
theorem bytes82 : Tryd.prog.bytesOf 82 = 16 := by kernel_rfl

def WfI (m : Int) : Prop := (Lit.int .i64 m).wf = true
def WfU (m : Int) : Prop := (Lit.int .u32 m).wf = true
set_option maxRecDepth 100000 in
theorem sh_tm {n : Nat} {r : List V} (h : Sh Tryd.prog (n + 2) 82 r) : ∃ t : Tm, r = tmRow t ∧ WfI t.proc ∧ WfI t.due := by
  obtain ⟨h1, h2⟩ := sh_struct Tryd.underlying82 h
  rw [cells82] at h1
  obtain ⟨a, b, rfl⟩ := len2 h1
  simp [cells3] at h2
  obtain ⟨g1, g2⟩ := h2
  obtain ⟨p, hp, e1⟩ := sh_int Tryd.underlying3 g1
  obtain ⟨d, hd, e2⟩ := sh_int Tryd.underlying3 g2
  cases e1; cases e2
  exact ⟨⟨p, d⟩, rfl, hp, hd⟩
set_option maxRecDepth 100000 in
theorem sh_ir {n : Nat} {r : List V} (h : Sh Tryd.prog (n + 1) 3 r) : ∃ m : Int, r = intRow m ∧ WfI m := by
  obtain ⟨m, hm, rfl⟩ := sh_int Tryd.underlying3 h
  exact ⟨m, rfl, hm⟩
structure WfPr (p : Pr) : Prop where
  len : Wp p
  regs : ∀ m ∈ p.regs, WfU m
  pc : WfU p.pc
  state : WfI p.state
  prio : WfI p.prio
  wait : WfI p.wait
  obj : WfI p.obj
set_option maxRecDepth 100000 in
theorem sh_pr {n : Nat} {r : List V} (h : Sh Tryd.prog (n + 3) 32 r) : ∃ p : Pr, r = prRow p ∧ WfPr p := by
  obtain ⟨h1, h2⟩ := sh_struct Tryd.underlying32 h
  rw [cells32] at h1
  simp [cells3, cells29, cells30] at h2
  obtain ⟨g0, g1, g2, g3, g4, g5⟩ := h2
  obtain ⟨regs, e0, e1, e2⟩ := sh_ints Tryd.underlying30 Tryd.underlying29 cells29 cells30 g0
  obtain ⟨pc, w1, f1⟩ := sh_int Tryd.underlying29 g1
  obtain ⟨st, w2, f2⟩ := sh_int Tryd.underlying3 g2
  obtain ⟨pr, w3, f3⟩ := sh_int Tryd.underlying3 g3
  obtain ⟨wt, w4, f4⟩ := sh_int Tryd.underlying3 g4
  obtain ⟨ob, w5, f5⟩ := sh_int Tryd.underlying3 g5
  refine ⟨⟨regs, pc, st, pr, wt, ob⟩, ?_, e0, e2, w1, w2, w3, w4, w5⟩
  have split : r = r.take 16 ++ (r.drop 16).take 1 ++ (r.drop 17).take 1 ++ (r.drop 18).take 1 ++ (r.drop 19).take 1 ++ (r.drop 20).take 1 := by
    have a : ∀ (k : Nat), r.drop k = (r.drop k).take 1 ++ r.drop (k + 1) := fun k => by
      conv => lhs; rw [← List.take_append_drop 1 (r.drop k), List.drop_drop]
    conv => lhs; rw [← List.take_append_drop 16 r, a 16, a 17, a 18, a 19, a 20, List.drop_of_length_le (show r.length ≤ 20 + 1 by omega)]
    simp only [List.append_assoc, List.append_nil]
  rw [split, e1, f1, f2, f3, f4, f5]
  simp [prRow]
structure WfTab (t : Tab) : Prop where
  ps : ∀ p ∈ t.ps, WfPr p
  q : ∀ n ∈ t.q, WfI n
  ts : ∀ m ∈ t.ts, WfI m.proc ∧ WfI m.due
  rp : t.ps.length * 104 ≤ reachBytes
  rq : t.q.length * 8 ≤ reachBytes
  rs : t.ts.length * 16 ≤ reachBytes
set_option maxRecDepth 100000 in
theorem sh_tab {n : Nat} {l : List V} (h : Sh Tryd.prog (n + 5) 26 l) : ∃ x y z t, l = [x, y, z] ∧ IsTab x y z t ∧ WfTab t := by
  obtain ⟨h1, h2⟩ := sh_struct Tryd.underlying26 h
  rw [cells26] at h1
  obtain ⟨a, b, c, rfl⟩ := len3 h1
  simp [cells22, cells23, cells24] at h2
  obtain ⟨g1, g2, g3⟩ := h2
  obtain ⟨x, r1, e1, s1, l1, b1, q1⟩ := sh_slice Tryd.underlying22 g1
  obtain ⟨y, r2, e2, s2, l2, b2, q2⟩ := sh_slice Tryd.underlying23 g2
  obtain ⟨z, r3, e3, s3, l3, b3, q3⟩ := sh_slice Tryd.underlying24 g3
  cases e1; cases e2; cases e3
  obtain ⟨ps, rfl, w1⟩ := choose_map (f := prRow) fun r hr => sh_pr (q1 r hr)
  obtain ⟨q, rfl, w2⟩ := choose_map (f := intRow) fun r hr => sh_ir (q2 r hr)
  obtain ⟨ts, rfl, w3⟩ := choose_map (f := tmRow) fun r hr => sh_tm (q3 r hr)
  rw [cells32] at s1
  rw [cells3] at s2
  rw [cells82] at s3
  rw [List.length_map] at l1 l2 l3 b1 b2 b3
  rw [bytes32] at b1
  rw [bytes3] at b2
  rw [bytes82] at b3
  have mb : maxLen = big := rfl
  rw [mb] at l1 l2 l3
  exact ⟨a, b, c, ⟨ps, q, ts⟩, rfl, ⟨s1, s2, s3, fun p hp => (w1 p hp).len, l1, l2, l3⟩, ⟨w1, w2, w3, b1, b2, b3⟩⟩
theorem argV26 (l : List V) : argV Tryd.prog 26 l = .agg l := by
  unfold argV
  rw [Tryd.underlying26]
theorem in26 : inTy Tryd.prog 5 26 = true := by kernel_rfl
end Go.Proofs.YtjjiphigolegbaaDoor

/-! The shapes of lists of timers and of numbers as arguments. -/
namespace Go.Proofs.YtjjiphigolegbaaDoor
open Go Go.Fv Go.Fv.Pl Go.Fv.Tr Go.ChangeShapes Go.WideShapes Go.RowKit

section
variable {P : Program} {n : Nat}
theorem shs1 {t1 : TypeId} {xs : List V} (h : Shs P n [t1] xs) : ∃ a, xs = [a] ∧ ∃ l, Sh P n t1 l ∧ a = argV P t1 l := by
  cases xs with
  | nil => exact h.elim
  | cons a xs => cases xs with
    | nil => exact ⟨a, rfl, h.1⟩
    | cons b xs => exact h.2.elim
theorem shs2 {t1 t2 : TypeId} {xs : List V} (h : Shs P n [t1, t2] xs) : ∃ a b, xs = [a, b] ∧ (∃ l, Sh P n t1 l ∧ a = argV P t1 l) ∧ ∃ l, Sh P n t2 l ∧ b = argV P t2 l := by
  cases xs with
  | nil => exact h.elim
  | cons a xs =>
    obtain ⟨b, rfl, h2⟩ := shs1 (P := P) (n := n) (t1 := t2) (xs := xs) h.2
    exact ⟨a, b, rfl, h.1, h2⟩
theorem shs3 {t1 t2 t3 : TypeId} {xs : List V} (h : Shs P n [t1, t2, t3] xs) : ∃ a b c, xs = [a, b, c] ∧ (∃ l, Sh P n t1 l ∧ a = argV P t1 l) ∧ (∃ l, Sh P n t2 l ∧ b = argV P t2 l) ∧ ∃ l, Sh P n t3 l ∧ c = argV P t3 l := by
  cases xs with
  | nil => exact h.elim
  | cons a xs =>
    obtain ⟨b, c, rfl, h2, h3⟩ := shs2 (P := P) (n := n) (t1 := t2) (t2 := t3) (xs := xs) h.2
    exact ⟨a, b, c, rfl, h.1, h2, h3⟩
end
set_option maxRecDepth 100000 in
theorem sh_ts {n : Nat} {l : List V} (h : Sh Tryd.prog (n + 3) 24 l) : ∃ (x : V) (ts : List Tm), l = [x] ∧ Sls x 2 (ts.map tmRow) ∧ ts.length ≤ big ∧ ts.length * 16 ≤ reachBytes ∧ ∀ t ∈ ts, WfI t.proc ∧ WfI t.due := by
  obtain ⟨z, r3, e3, s3, l3, b3, q3⟩ := sh_slice Tryd.underlying24 h
  obtain ⟨ts, rfl, w3⟩ := choose_map (f := tmRow) fun r hr => sh_tm (q3 r hr)
  rw [cells82] at s3
  rw [List.length_map] at l3 b3
  rw [bytes82] at b3
  exact ⟨z, ts, e3, s3, l3, b3, w3⟩
set_option maxRecDepth 100000 in
theorem sh_i {n : Nat} {l : List V} (h : Sh Tryd.prog (n + 1) 3 l) : ∃ m : Int, l = [.int .i64 m] ∧ WfI m := by
  obtain ⟨m, hm, rfl⟩ := sh_int Tryd.underlying3 h
  exact ⟨m, rfl, hm⟩
theorem argV24 (x : V) : argV Tryd.prog 24 [x] = x := by
  unfold argV
  rw [Tryd.underlying24]
  rfl
theorem argV3 (x : V) : argV Tryd.prog 3 [x] = x := by
  unfold argV
  rw [Tryd.underlying3]
  rfl
theorem in24 : inTy Tryd.prog 5 24 = true := by kernel_rfl
theorem in3 : inTy Tryd.prog 5 3 = true := by kernel_rfl
theorem wfI_iff {m : Int} : WfI m ↔ -9223372036854775808 ≤ m ∧ m ≤ 9223372036854775807 := by
  unfold WfI Lit.wf IntKind.min IntKind.max
  simp [IntKind.signed, IntKind.bits]
end Go.Proofs.YtjjiphigolegbaaDoor
