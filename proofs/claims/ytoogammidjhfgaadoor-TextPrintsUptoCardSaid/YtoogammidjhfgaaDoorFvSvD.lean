/-
  The lines of a part: the program's. By an AI agent; no person has read it.
-/
import Derived.Test.YtoogammidjhfgaaDoorFvSvC
set_option linter.unusedVariables false
set_option linter.unusedSimpArgs false
set_option linter.unusedSectionVars false
/-! The lines of a part: the program's. -/
namespace Go.Fv
open Go
section
variable {H : Heap}
/-- A step that sees all that there is, and makes new memory alone. -/
theorem Run.qAll {v : Nat → Bool} {m : M V} {P Q : V → Heap → Prop} (hv : ∀ l, l < H.next → v l = true)
    (h : ∀ K : Heap, K.next = H.next → K.floor ≤ K.next → (∀ l, l < H.next → K.blk l = H.blk l) → Run m K fun y K' => Frame K K' (fun _ => False) ∧ P y K')
    (q : ∀ y K' H', P y K' → Frame H H' (fun _ => False) → H'.blk = K'.blk → H'.next = K'.next → Q y H') : Run (qrun v m) H Q := by
  refine Run.qrunI ((h ⟨fun l => if v l then H.blk l else none, H.next, H.next⟩ rfl (Nat.le_refl _) (fun l hl => by simp only [hv l hl, if_true])).mono fun y K' ⟨f, p⟩ => ?_)
  refine q y K' _ p ⟨f.next, rfl, fun l hl _ => if_pos hl⟩ ?_ rfl
  funext l
  show (if l < H.next then H.blk l else K'.blk l) = K'.blk l
  by_cases hl : l < H.next
  · rw [if_pos hl, f.old l hl id]
    simp only [hv l hl, if_true]
  · rw [if_neg hl]
theorem Frame.tr {H' H'' : Heap} (a : Frame H H' (fun _ => False)) (b : Frame H' H'' (fun _ => False)) : Frame H H'' (fun _ => False) := a.trans b (fun _ _ h => h) (fun _ _ h => h)
theorem Frame.st {H' : Heap} (a : Frame H H' (fun _ => False)) {l : Nat} (hl : H.next ≤ l) (b : Blk) : Frame H (H'.set l b) (fun _ => False) :=
  ⟨a.next, a.floor, fun m hm _ => by rw [Heap.set_blk, if_neg (by omega)]; exact a.old m hm id⟩
theorem Rd.in_ {K : Heap} {x : V} {sz : Nat} {rows : List (List V)} (h : Rd H x sz rows) (hn : K.next = H.next) (hb : ∀ l, l < H.next → K.blk l = H.blk l) : Rd K x sz rows :=
  h.keep (by omega) fun l hl => hb l (h.lt hl)
end
end Go.Fv
namespace Go.Fv.Tr
open Go Go.Fv Go.Proofs
set_option linter.unusedSimpArgs false
set_option linter.unusedVariables false
variable {G : Nat → Option (List V)}

theorem qline_run (n : Nat) {H : Heap} {x : V} {ws : List (List UInt8)} {v : Nat → Bool} {Q : V → Heap → Prop} (hv : ∀ l, l < H.next → v l = true) (hx : Rd H x 1 (ws.map stB)) (hne : ws ≠ []) (hN : ws.length ≤ room) (hl : (lineL ws).length ≤ room)
    (q : ∀ H', Frame H H' (fun _ => False) → Q (.str (bs (lineL ws))) H') : Run (qrun v (callV (cfg G) (sem (cfg G) (n + 1)) 78 [x])) H Q :=
  Run.qAll (P := fun y _ => y = .str (bs (lineL ws))) hv (fun K k1 k2 k3 => line_run n (hx.in_ k1 k3) hne hN hl ⟨Frame.refl _ _, rfl⟩) fun y K' H' e f _ _ => by rw [e]; exact q H' f
theorem Run.sliceS {H : Heap} {z : V} {s : ByteArray} {Q : V → Heap → Prop} : Run (sliceV 1 1 [z] [(0, .str s)]) H Q ↔ Q (.ref H.next 1 0 1 1 true) (H.add ⟨1, [[.str s]]⟩) := by
  refine Run.eq ?_
  simp [sliceV, fillRows, V.cells?, newRows]
theorem rd_new (H : Heap) (ws : List (List UInt8)) : Rd (H.add ⟨1, ws.map stB⟩) (.ref H.next 1 0 ws.length ws.length true) 1 (ws.map stB) :=
  .inr ⟨H.next, 0, ws.length, ws.length, true, ⟨1, ws.map stB⟩, rfl, if_pos rfl, Nat.lt_succ_self _, by simp, by rw [List.drop_zero]; exact List.take_of_length_le (by simp)⟩

/-- Lines that are being gathered; what was there before stays. -/
structure Ac (Hs : Heap) (y : V) (ws : List (List UInt8)) (H : Heap) : Prop where
  fl : H.floor = 0
  fr : Frame Hs H (fun _ => False)
  o : Own H y 1 (ws.map stB)
  ge : ∀ m, loc y = some m → Hs.next ≤ m
theorem Ac.at {Hs : Heap} {y : V} {ws : List (List UInt8)} {H : Heap} {l : Nat} {b : Blk} (h : Ac Hs y ws H) (hb : Hs.blk l = some b) (hl : l < Hs.next) : H.blk l = some b := (h.fr.old l hl id).trans hb
theorem Ac.keep {Hs : Heap} {y : V} {ws : List (List UInt8)} {H H' : Heap} (h : Ac Hs y ws H) (f : Frame H H' (fun _ => False)) : Ac Hs y ws H' :=
  ⟨f.floor.trans h.fl, h.fr.tr f, h.o.frame f fun _ _ => id, h.ge⟩
theorem Ac.grown {Hs : Heap} {y y' : V} {ws us : List (List UInt8)} {H H' : Heap} (h : Ac Hs y ws H) (o : Own H' y' 1 (ws.map stB ++ us.map stB)) (f : Frame H H' (fun l => loc y = some l)) (hl : ∀ l, loc y' = some l → loc y = some l ∨ H.next ≤ l) : Ac Hs y' (ws ++ us) H' := by
  have n1 := h.fr.next
  refine ⟨f.floor.trans h.fl, ⟨Nat.le_trans n1 f.next, f.floor.trans h.fr.floor, fun m hm _ => ?_⟩, by rw [List.map_append]; exact o, fun m e => ?_⟩
  · rw [f.old m (by omega) (fun e => by have := h.ge m e; omega)]
    exact h.fr.old m hm id
  · rcases hl m e with h1 | h1
    · exact h.ge m h1
    · omega
theorem Ac.app {Hs : Heap} {y : V} {ws : List (List UInt8)} {w : List UInt8} {H : Heap} {Q : V → Heap → Prop} (h : Ac Hs y ws H) (hN : (ws.length + 1) * 16 ≤ room) (q : ∀ y' H', Ac Hs y' (ws ++ [w]) H' → Q y' H') :
    Run (appV 1 16 y (.ref H.next 1 0 1 1 true)) (H.add ⟨1, [stB w]⟩) Q :=
  (Run.app (bytes := 16) (items := [w].map stB) (by rw [Heap.add_floor, h.fl]; exact Nat.zero_le _) (h.o.frame (Frame.add _ (fun _ => False)) (fun _ _ => id)) (by simp [itemsV, Heap.add_blk]) (by rw [List.length_map]; exact hN)).mono
    fun y' H' ⟨o, f, l⟩ => q y' H' ((h.keep (Frame.add ⟨1, [stB w]⟩ (fun _ => False))).grown o f l)
theorem Ac.tapp {Hs : Heap} {y : V} {ws : List (List UInt8)} {w : List UInt8} {H : Heap} {v : Nat → Bool} {Q : V → Heap → Prop} (h : Ac Hs y ws H) (hv : ∀ l, l < H.next + 1 → v l = true) (hN : (ws.length + 1) * 16 ≤ room) (q : ∀ y' H', Ac Hs y' (ws ++ [w]) H' → Q y' H') :
    Run (trun v (appV 1 16 y (.ref H.next 1 0 1 1 true))) (H.add ⟨1, [stB w]⟩) Q :=
  (Run.tapp (bytes := 16) (items := [w].map stB) (by rw [Heap.add_floor, h.fl]; exact Nat.zero_le _) (h.o.frame (Frame.add _ (fun _ => False)) (fun _ _ => id)) (fun m e => hv m (by have := h.o.lt e; omega)) (by simp [itemsV, Heap.add_blk, hv H.next (Nat.lt_succ_self _)]) (by rw [List.length_map]; exact hN)).mono
    fun y' H' ⟨o, f, l⟩ => q y' H' ((h.keep (Frame.add ⟨1, [stB w]⟩ (fun _ => False))).grown o f l)
theorem Ac.tapps {Hs : Heap} {y z : V} {ws us : List (List UInt8)} {H : Heap} {v : Nat → Bool} {Q : V → Heap → Prop} (h : Ac Hs y ws H) (hz : Rd H z 1 (us.map stB)) (hv : ∀ l, l < H.next → v l = true) (hN : (ws.length + us.length) * 16 ≤ room) (q : ∀ y' H', Ac Hs y' (ws ++ us) H' → Q y' H') :
    Run (trun v (appV 1 16 y z)) H Q :=
  (Run.tapp (bytes := 16) (items := us.map stB) (by rw [h.fl]; exact Nat.zero_le _) h.o (fun m e => hv m (h.o.lt e)) (hz.in_ (K := ⟨fun l => if v l then H.blk l else none, H.next, H.floor⟩) rfl (fun l hl => by simp only [hv l hl, if_true])).items (by rw [List.length_map, List.length_map]; exact hN)).mono
    fun y' H' ⟨o, f, l⟩ => q y' H' (h.grown o f l)
theorem Ac.new {w : List UInt8} {H : Heap} (hf : H.floor = 0) : Ac H (.ref H.next 1 0 1 1 true) [w] (H.add ⟨1, [stB w]⟩) :=
  ⟨hf, Frame.add _ _, Own.new (H := H) (sz := 1) (by rw [hf]; exact Nat.zero_le _) [stB w] true, fun m e => by cases e; exact Nat.le_refl _⟩

/-! ### The lines -/
def wPort : List UInt8 := [112, 111, 114, 116]
def wSi : List UInt8 := [115, 97, 109, 112, 108, 101, 105, 110]
def wSo : List UInt8 := [115, 97, 109, 112, 108, 101, 111, 117, 116]
def wQi : List UInt8 := [113, 117, 101, 117, 101, 105, 110]
def wQo : List UInt8 := [113, 117, 101, 117, 101, 111, 117, 116]
def portW (q : Pt) : List (List UInt8) :=
  if q.k = 1 then [wPort, wSi, Go.Lib.itoa q.z, Go.Lib.itoa q.f] else if q.k = 2 then [wPort, wSo, Go.Lib.itoa q.z] else if q.k = 3 then [wPort, wQi, Go.Lib.itoa q.z, Go.Lib.itoa q.d] else [wPort, wQo, Go.Lib.itoa q.z, Go.Lib.itoa q.d]
structure PtR (q : Pt) : Prop where
  k : inR q.k
  z : inR q.z
  d : inR q.d
  f : inR q.f
theorem pt_at (q : Pt) : (ptR q)[0]? = some (.int .i64 q.k) ∧ (ptR q)[1]? = some (.int .i64 q.z) ∧ (ptR q)[2]? = some (.int .i64 q.d) ∧ (ptR q)[3]? = some (.int .i64 q.f) := ⟨rfl, rfl, rfl, rfl⟩
theorem portW_le {q : Pt} (h : PtR q) : (∀ w ∈ portW q, w.length ≤ 20) ∧ portW q ≠ [] ∧ (portW q).length ≤ 4 := by
  have hz := itoa_le h.z
  have hd := itoa_le h.d
  have hf := itoa_le h.f
  have a1 : wPort.length ≤ 20 := by decide
  have a2 : wSi.length ≤ 20 := by decide
  have a3 : wSo.length ≤ 20 := by decide
  have a4 : wQi.length ≤ 20 := by decide
  have a5 : wQo.length ≤ 20 := by decide
  unfold portW
  split
  · exact ⟨by intro w hw; simp at hw; rcases hw with rfl | rfl | rfl | rfl <;> assumption, by simp, by simp⟩
  · split
    · exact ⟨by intro w hw; simp at hw; rcases hw with rfl | rfl | rfl <;> assumption, by simp, by simp⟩
    · split
      · exact ⟨by intro w hw; simp at hw; rcases hw with rfl | rfl | rfl | rfl <;> assumption, by simp, by simp⟩
      · exact ⟨by intro w hw; simp at hw; rcases hw with rfl | rfl | rfl | rfl <;> assumption, by simp, by simp⟩
theorem small_line {ws : List (List UInt8)} (h : (∀ w ∈ ws, w.length ≤ 20) ∧ ws ≠ [] ∧ ws.length ≤ 4) : (lineL ws).length ≤ 84 := by
  have h1 := lineL_len h.1
  have : ws.length * 21 ≤ 4 * 21 := Nat.mul_le_mul_right _ h.2.2
  exact Nat.le_trans h1 (by omega)
set_option maxRecDepth 20000 in
theorem portLine_spec (hG : tabOf G = true) (n : Nat) {q : Pt} (h : PtR q) : callV (cfg G) (sem (cfg G) (n + 3)) 135 [.agg (ptR q)] = M.ret (.str (bs (lineL (portW q)))) := by
  refine callV_pure0 rfl rfl rfl ?_
  rw [ferry_text_portLine_eq]
  simp only [ferry_text_portLine]
  obtain ⟨r0, r1, r2, r3⟩ := pt_at q
  have nz := num_spec hG n h.z
  have nd := num_spec hG n h.d
  have nf := num_spec hG n h.f
  have hw := portW_le h
  have hl := small_line hw
  have hr : room = 140737488355328 := rfl
  have rp : (⟨#[112, 111, 114, 116]⟩ : ByteArray) = bs wPort := rfl
  have ri : (⟨#[115, 97, 109, 112, 108, 101, 105, 110]⟩ : ByteArray) = bs wSi := rfl
  have ro : (⟨#[115, 97, 109, 112, 108, 101, 111, 117, 116]⟩ : ByteArray) = bs wSo := rfl
  have qi : (⟨#[113, 117, 101, 117, 101, 105, 110]⟩ : ByteArray) = bs wQi := rfl
  have qo : (⟨#[113, 117, 101, 117, 101, 111, 117, 116]⟩ : ByteArray) = bs wQo := rfl
  by_cases h1 : q.k = 1
  · have e1 : (q.k == 1) = true := beq_iff_eq.2 h1
    have eW : portW q = [wPort, wSi, Go.Lib.itoa q.z, Go.Lib.itoa q.f] := if_pos h1
    rw [eW] at hw hl
    (repeat' (first | (simp only [wp, extractV, exists_eq_left', if_true, if_false, ite_true, ite_false, reduceIte, Nat.reduceAdd, Nat.reduceLT, Nat.reduceLeDiff, Nat.reduceEqDiff, r0, r1, r3, e1, nz, nf, rp, ri, Run.slice]) | (with_reducible refine Run.gC ?_ ?_ <;> intro hb <;> try simp only [hb]) | (with_reducible refine Run.gG ?_ ?_ <;> intro hb <;> try simp only [hb]) | (with_reducible refine Run.gQ ?_ ?_ <;> intro hb <;> try simp only [hb])))
    refine ⟨[wPort, wSi, Go.Lib.itoa q.z, Go.Lib.itoa q.f].map stB, rfl, ?_⟩
    refine qline_run (n + 1) (fun l hl => by simp [visB, Heap.add_next, Heap.set_next, Heap.q_next, Heap.empty_next] at hl ⊢; omega) (rd_new _ [wPort, wSi, Go.Lib.itoa q.z, Go.Lib.itoa q.f]) hw.2.1 (by have := hw.2.2; omega) (by omega) fun H' f => ?_
    (repeat' (first | (simp only [wp, extractV, exists_eq_left', if_true, if_false, ite_true, ite_false, reduceIte, Nat.reduceAdd, Nat.reduceLT, Nat.reduceLeDiff, Nat.reduceEqDiff]) | (with_reducible refine Run.gC ?_ ?_ <;> intro hb <;> try simp only [hb]) | (with_reducible refine Run.gG ?_ ?_ <;> intro hb <;> try simp only [hb]) | (with_reducible refine Run.gQ ?_ ?_ <;> intro hb <;> try simp only [hb])))
    rw [eW]
  have e1 : (q.k == 1) = false := beq_eq_false_iff_ne.2 h1
  by_cases h2 : q.k = 2
  · have e2 : (q.k == 2) = true := beq_iff_eq.2 h2
    have eW : portW q = [wPort, wSo, Go.Lib.itoa q.z] := (if_neg h1).trans (if_pos h2)
    rw [eW] at hw hl
    (repeat' (first | (simp only [wp, extractV, exists_eq_left', if_true, if_false, ite_true, ite_false, reduceIte, Nat.reduceAdd, Nat.reduceLT, Nat.reduceLeDiff, Nat.reduceEqDiff, r0, r1, e1, e2, nz, rp, ro, Run.slice]) | (with_reducible refine Run.gC ?_ ?_ <;> intro hb <;> try simp only [hb]) | (with_reducible refine Run.gG ?_ ?_ <;> intro hb <;> try simp only [hb]) | (with_reducible refine Run.gQ ?_ ?_ <;> intro hb <;> try simp only [hb])))
    refine ⟨[wPort, wSo, Go.Lib.itoa q.z].map stB, rfl, ?_⟩
    refine line_run (n + 1) (rd_new _ [wPort, wSo, Go.Lib.itoa q.z]) hw.2.1 (by have := hw.2.2; omega) (by omega) ?_
    (repeat' (first | (simp only [wp, extractV, exists_eq_left', if_true, if_false, ite_true, ite_false, reduceIte, Nat.reduceAdd, Nat.reduceLT, Nat.reduceLeDiff, Nat.reduceEqDiff]) | (with_reducible refine Run.gC ?_ ?_ <;> intro hb <;> try simp only [hb]) | (with_reducible refine Run.gG ?_ ?_ <;> intro hb <;> try simp only [hb]) | (with_reducible refine Run.gQ ?_ ?_ <;> intro hb <;> try simp only [hb])))
    rw [eW]
  have e2 : (q.k == 2) = false := beq_eq_false_iff_ne.2 h2
  by_cases h3 : q.k = 3
  · have e3 : (q.k == 3) = true := beq_iff_eq.2 h3
    have eW : portW q = [wPort, wQi, Go.Lib.itoa q.z, Go.Lib.itoa q.d] := (if_neg h1).trans ((if_neg h2).trans (if_pos h3))
    rw [eW] at hw hl
    (repeat' (first | (simp only [wp, extractV, exists_eq_left', if_true, if_false, ite_true, ite_false, reduceIte, Nat.reduceAdd, Nat.reduceLT, Nat.reduceLeDiff, Nat.reduceEqDiff, r0, r1, r2, e1, e2, e3, nz, nd, rp, qi, Run.slice]) | (with_reducible refine Run.gC ?_ ?_ <;> intro hb <;> try simp only [hb]) | (with_reducible refine Run.gG ?_ ?_ <;> intro hb <;> try simp only [hb]) | (with_reducible refine Run.gQ ?_ ?_ <;> intro hb <;> try simp only [hb])))
    refine ⟨[wPort, wQi, Go.Lib.itoa q.z, Go.Lib.itoa q.d].map stB, rfl, ?_⟩
    refine qline_run (n + 1) (fun l hl => by simp [visB, Heap.add_next, Heap.set_next, Heap.q_next, Heap.empty_next] at hl ⊢; omega) (rd_new _ [wPort, wQi, Go.Lib.itoa q.z, Go.Lib.itoa q.d]) hw.2.1 (by have := hw.2.2; omega) (by omega) fun H' f => ?_
    (repeat' (first | (simp only [wp, extractV, exists_eq_left', if_true, if_false, ite_true, ite_false, reduceIte, Nat.reduceAdd, Nat.reduceLT, Nat.reduceLeDiff, Nat.reduceEqDiff]) | (with_reducible refine Run.gC ?_ ?_ <;> intro hb <;> try simp only [hb]) | (with_reducible refine Run.gG ?_ ?_ <;> intro hb <;> try simp only [hb]) | (with_reducible refine Run.gQ ?_ ?_ <;> intro hb <;> try simp only [hb])))
    rw [eW]
  · have e3 : (q.k == 3) = false := beq_eq_false_iff_ne.2 h3
    have eW : portW q = [wPort, wQo, Go.Lib.itoa q.z, Go.Lib.itoa q.d] := (if_neg h1).trans ((if_neg h2).trans (if_neg h3))
    rw [eW] at hw hl
    (repeat' (first | (simp only [wp, extractV, exists_eq_left', if_true, if_false, ite_true, ite_false, reduceIte, Nat.reduceAdd, Nat.reduceLT, Nat.reduceLeDiff, Nat.reduceEqDiff, r0, r1, r2, e1, e2, e3, nz, nd, rp, qo, Run.slice]) | (with_reducible refine Run.gC ?_ ?_ <;> intro hb <;> try simp only [hb]) | (with_reducible refine Run.gG ?_ ?_ <;> intro hb <;> try simp only [hb]) | (with_reducible refine Run.gQ ?_ ?_ <;> intro hb <;> try simp only [hb])))
    refine ⟨[wPort, wQo, Go.Lib.itoa q.z, Go.Lib.itoa q.d].map stB, rfl, ?_⟩
    refine qline_run (n + 1) (fun l hl => by simp [visB, Heap.add_next, Heap.set_next, Heap.q_next, Heap.empty_next] at hl ⊢; omega) (rd_new _ [wPort, wQo, Go.Lib.itoa q.z, Go.Lib.itoa q.d]) hw.2.1 (by have := hw.2.2; omega) (by omega) fun H' f => ?_
    (repeat' (first | (simp only [wp, extractV, exists_eq_left', if_true, if_false, ite_true, ite_false, reduceIte, Nat.reduceAdd, Nat.reduceLT, Nat.reduceLeDiff, Nat.reduceEqDiff]) | (with_reducible refine Run.gC ?_ ?_ <;> intro hb <;> try simp only [hb]) | (with_reducible refine Run.gG ?_ ?_ <;> intro hb <;> try simp only [hb]) | (with_reducible refine Run.gQ ?_ ?_ <;> intro hb <;> try simp only [hb])))
    rw [eW]

def wPart : List UInt8 := [112, 97, 114, 116]
def wMob : List UInt8 := [109, 111, 98, 105, 108, 101]
def wFix : List UInt8 := [102, 105, 120, 101, 100]
def wPage : List UInt8 := [112, 97, 103, 101]
def wProc : List UInt8 := [112, 114, 111, 99]
def wAuto : List UInt8 := [97, 117, 116, 111]
def wIdle : List UInt8 := [105, 100, 108, 101]
def wEv : List UInt8 := [101, 118, 101, 110, 116, 115]
def wSem : List UInt8 := [115, 101, 109]
def partW (p : Pl) (home : Int) : List (List UInt8) := [wPart, Go.Lib.itoa home, if p.mob then wMob else wFix]
def pageW (g : Pg) : List (List UInt8) := [wPage, rightsL g.r, dataL g.s.data.toList]
def procW (c : Pc) : List (List UInt8) := [wProc, Go.Lib.itoa c.e, Go.Lib.itoa c.p, if c.a then wAuto else wIdle]
def evW (e : Int) : List (List UInt8) := [wEv, Go.Lib.itoa e]
def semW (m : Int) : List (List UInt8) := [wSem, Go.Lib.itoa m]
def partL (p : Pl) (home : Int) : List (List UInt8) :=
  [lineL (partW p home)] ++ p.pgs.map (fun g => lineL (pageW g)) ++ p.prs.map (fun c => lineL (procW c)) ++ p.pts.map (fun q => lineL (portW q)) ++ (if p.ev = 0 then [] else [lineL (evW p.ev)]) ++ p.sems.map (fun m => lineL (semW m))
/-- What bounds a part's numbers and bytes. -/
structure PlN (p : Pl) : Prop where
  r : ∀ g ∈ p.pgs, 0 ≤ g.r ∧ g.r ≤ 7
  s : ∀ g ∈ p.pgs, g.s.data.toList.length ≤ 1048576
  e : ∀ c ∈ p.prs, inR c.e ∧ inR c.p
  q : ∀ q ∈ p.pts, PtR q
  ev : inR p.ev
  sm : ∀ m ∈ p.sems, inR m
  l1 : p.pgs.length ≤ 1048576
  l2 : p.prs.length ≤ 1048576
  l3 : p.pts.length ≤ 1048576
  l4 : p.sems.length ≤ 1048576
theorem dataL_len (l : List UInt8) : (dataL l).length ≤ 2 * l.length + 1 := by
  unfold dataL
  split
  · simp
  · rw [hexL_len]; omega
set_option maxRecDepth 20000 in
theorem partLines_run (hG : tabOf G = true) (n : Nat) {row : List V} {p : Pl} {home : Int} (hp : PlS row p) (hN : PlN p) (hh : inR home) {H0 : Heap} (hH : H0.floor ≤ H0.next) :
    Run (callV (cfg G) (sem (cfg G) (n + 4)) 80 [.agg row, .int .i64 home]) H0 fun x H' => Own H' x 1 ((partL p home).map stB) ∧ Frame H0 H' (fun _ => False) ∧ ∀ l, loc x = some l → H0.next ≤ l := by
  refine callV_own rfl (mapM_closedV (by simp only [List.all_cons, List.all_nil, hp.closed]; rfl) H0) ?_
  obtain ⟨a, b, c, d, rfl, ha, hb, hc, hd⟩ := hp
  rw [ferry_text_partLines_eq]
  simp only [ferry_text_partLines]
  have hr : room = 140737488355328 := rfl
  have l1 := hN.l1
  have l2 := hN.l2
  have l3 := hN.l3
  have l4 := hN.l4
  have la := ha.len
  have lb := hb.len
  have lc := hc.len
  have ld := hd.len
  rw [List.length_map] at la lb lc ld
  have rm : (⟨#[109, 111, 98, 105, 108, 101]⟩ : ByteArray) = bs wMob := rfl
  have rf : (⟨#[102, 105, 120, 101, 100]⟩ : ByteArray) = bs wFix := rfl
  have rp : (⟨#[112, 97, 114, 116]⟩ : ByteArray) = bs wPart := rfl
  have ch : (if p.mob = true then bs wMob else bs wFix) = bs (if p.mob then wMob else wFix) := by cases p.mob <;> rfl
  have b20 : ∀ w ∈ partW p home, w.length ≤ 20 := by
    have := itoa_le hh
    intro w hw
    simp [partW] at hw
    rcases hw with rfl | rfl | rfl
    · decide
    · exact this
    · split <;> decide
  have hl0 := small_line ⟨b20, by simp [partW], by simp [partW]⟩
  (repeat' (first | (simp only [wp, extractV, exists_eq_left', if_true, if_false, ite_true, ite_false, reduceIte, Nat.reduceAdd, Nat.reduceLT, Nat.reduceLeDiff, Nat.reduceEqDiff, num_spec hG (n + 1) hh, choice_spec (n + 2), rm, rf, rp, ch, Run.slice]) | (with_reducible refine Run.gC ?_ ?_ <;> intro hb <;> try simp only [hb]) | (with_reducible refine Run.gG ?_ ?_ <;> intro hb <;> try simp only [hb]) | (with_reducible refine Run.gQ ?_ ?_ <;> intro hb <;> try simp only [hb])))
  refine ⟨(partW p home).map stB, rfl, ?_⟩
  refine qline_run (n + 2) (fun l hl => by simp [visB, Heap.add_next, Heap.set_next, Heap.q_next, Heap.empty_next] at hl ⊢; omega) (rd_new _ (partW p home)) (by simp [partW]) (by rw [hr]; simp [partW]) (by omega) fun H1 f1 => ?_
  have hb1 : H1.blk 0 = some ⟨7, [[iV p.id, .bool p.mob, a, b, c, iV p.ev, d]]⟩ := f1.old 0 (by show 0 < 2; omega) id
  have hn1 : 2 ≤ H1.next := f1.next
  have hf1 : H1.floor = 0 := f1.floor
  have n0 : ¬ (0 = H1.next) := by omega
  (repeat' (first | (simp only [wp, extractV, exists_eq_left', if_true, if_false, ite_true, ite_false, reduceIte, Nat.reduceAdd, Nat.reduceLT, Nat.reduceLeDiff, Nat.reduceEqDiff]) | (with_reducible refine Run.gC ?_ ?_ <;> intro hb <;> try simp only [hb]) | (with_reducible refine Run.gG ?_ ?_ <;> intro hb <;> try simp only [hb]) | (with_reducible refine Run.gQ ?_ ?_ <;> intro hb <;> try simp only [hb])))
  refine ⟨[stB (lineL (partW p home))], rfl, ?_⟩
  have hz1 : 0 < H1.next := by omega
  have A0 : Ac H1 (.ref H1.next 1 0 1 1 true) [lineL (partW p home)] (H1.add ⟨1, [stB (lineL (partW p home))]⟩) := Ac.new hf1
  (repeat' (first | (simp only [wp, extractV, exists_eq_left', if_true, if_false, ite_true, ite_false, reduceIte, Nat.reduceAdd, Nat.reduceLT, Nat.reduceLeDiff, Nat.reduceEqDiff, n0, hb1, la]) | (with_reducible refine Run.gC ?_ ?_ <;> intro hb <;> try simp only [hb]) | (with_reducible refine Run.gG ?_ ?_ <;> intro hb <;> try simp only [hb]) | (with_reducible refine Run.gQ ?_ ?_ <;> intro hb <;> try simp only [hb])))
  generalize H1.add ⟨1, [stB (lineL (partW p home))]⟩ = H2 at *
  generalize eL0 : [lineL (partW p home)] = L0 at A0
  have n00 : L0.length = 1 := by rw [← eL0]; rfl
  -- pages
  refine Run.loop (N := p.pgs.length) (fun k st H => ∃ y, st = [y, iV k] ∧ Ac H1 y (L0 ++ (p.pgs.take k).map (fun g => lineL (pageW g))) H) ⟨_, rfl, by simpa using A0⟩ ?_
  rintro k st H hk ⟨y, rfl, A⟩
  simp only [ferry_text_partLines_l1]
  by_cases hlt : k < p.pgs.length
  · have hix := ha.idx (k := .i64) (i := k) (by rw [List.length_map]; exact hlt)
    rw [map_get hlt] at hix
    obtain ⟨h0, h7⟩ := hN.r _ (List.getElem_mem hlt)
    have hs := hN.s _ (List.getElem_mem hlt)
    have eg : pgR p.pgs[k] = [iV p.pgs[k].r, .str (bs p.pgs[k].s.data.toList)] := by rw [bs_toList]; rfl
    rw [eg] at hix
    have hd2 := dataL_len p.pgs[k].s.data.toList
    have hb : ∀ w ∈ pageW p.pgs[k], w.length ≤ 2097153 := by
      have := rightsL_len p.pgs[k].r
      intro w hw
      simp only [pageW, List.mem_cons, List.not_mem_nil, or_false] at hw
      rcases hw with rfl | rfl | rfl
      · decide
      · omega
      · omega
    have hll := lineL_len hb
    have e3 : (pageW p.pgs[k]).length = 3 := rfl
    rw [e3] at hll
    have rg : (⟨#[112, 97, 103, 101]⟩ : ByteArray) = bs wPage := rfl
    have fl := A.fl
    (repeat' (first | (simp only [wp, extractV, exists_eq_left', if_true, if_false, ite_true, ite_false, reduceIte, Nat.reduceAdd, Nat.reduceLT, Nat.reduceLeDiff, Nat.reduceEqDiff, nltT hlt, hix, fl, rights_spec (n + 2) h0 h7, data_spec (n + 1) (l := p.pgs[k].s.data.toList) (by omega), rg, Run.slice]) | (with_reducible refine Run.gC ?_ ?_ <;> intro hb <;> try simp only [hb]) | (with_reducible refine Run.gG ?_ ?_ <;> intro hb <;> try simp only [hb]) | (with_reducible refine Run.gQ ?_ ?_ <;> intro hb <;> try simp only [hb])))
    refine ⟨(pageW p.pgs[k]).map stB, rfl, ?_⟩
    refine qline_run (n + 2) (fun l hl => by simp [visB, Heap.add_next, Heap.set_next, Heap.q_next, Heap.empty_next] at hl ⊢; omega) (rd_new _ (pageW p.pgs[k])) (by simp [pageW]) (by rw [e3, hr]; omega) (by omega) fun H3 f3 => ?_
    have n3 : H.next + 2 ≤ H3.next := f3.next
    have fH : Frame H H3 (fun _ => False) := ((((((Frame.add _ _).st (Nat.le_refl _) _).tr (Frame.q _ _)).tr (Frame.q _ _)).tr (Frame.add _ _)).tr f3)
    (repeat' (first | (simp only [wp, extractV, exists_eq_left', if_true, if_false, ite_true, ite_false, reduceIte, Nat.reduceAdd, Nat.reduceLT, Nat.reduceLeDiff, Nat.reduceEqDiff]) | (with_reducible refine Run.gC ?_ ?_ <;> intro hb <;> try simp only [hb]) | (with_reducible refine Run.gG ?_ ?_ <;> intro hb <;> try simp only [hb]) | (with_reducible refine Run.gQ ?_ ?_ <;> intro hb <;> try simp only [hb])))
    refine ⟨[stB (lineL (pageW p.pgs[k]))], rfl, ?_⟩
    refine (A.keep fH).tapp (fun l hl => by simp [visB, Heap.add_next, Heap.set_next, Heap.q_next, Heap.empty_next] at hl ⊢; omega) (by simp only [List.length_append, List.length_map, List.length_take, List.length_cons, List.length_nil]; omega) fun y' H4 A4 => ?_
    (repeat' (first | (simp only [wp, extractV, exists_eq_left', if_true, if_false, ite_true, ite_false, reduceIte, Nat.reduceAdd, Nat.reduceLT, Nat.reduceLeDiff, Nat.reduceEqDiff, nadd hlt (show p.pgs.length ≤ 9223372036854775807 by omega)]) | (with_reducible refine Run.gC ?_ ?_ <;> intro hb <;> try simp only [hb]) | (with_reducible refine Run.gG ?_ ?_ <;> intro hb <;> try simp only [hb]) | (with_reducible refine Run.gQ ?_ ?_ <;> intro hb <;> try simp only [hb])))
    refine ⟨hlt, y', rfl, ?_⟩
    rw [List.take_succ_eq_append_getElem hlt, List.map_append, ← List.append_assoc]
    exact A4
  have hk0 : k = p.pgs.length := by omega
  subst hk0
  rw [List.take_length] at A
  (repeat' (first | (simp only [wp, extractV, exists_eq_left', if_true, if_false, ite_true, ite_false, reduceIte, Nat.reduceAdd, Nat.reduceLT, Nat.reduceLeDiff, Nat.reduceEqDiff, nltF hlt, A.at hb1 hz1, lb]) | (with_reducible refine Run.gC ?_ ?_ <;> intro hb <;> try simp only [hb]) | (with_reducible refine Run.gG ?_ ?_ <;> intro hb <;> try simp only [hb]) | (with_reducible refine Run.gQ ?_ ?_ <;> intro hb <;> try simp only [hb])))
  generalize eL1 : L0 ++ p.pgs.map (fun g => lineL (pageW g)) = L1 at A
  have n1 : L1.length ≤ 1048577 := by rw [← eL1, List.length_append, List.length_map]; omega
  clear hlt A0
  -- processes
  refine Run.loop (N := p.prs.length) (fun k st H => ∃ y, st = [y, iV k] ∧ Ac H1 y (L1 ++ (p.prs.take k).map (fun c => lineL (procW c))) H) ⟨_, rfl, by simpa using A⟩ ?_
  rintro k st H hk ⟨y, rfl, A⟩
  simp only [ferry_text_partLines_l2]
  by_cases hlt : k < p.prs.length
  · have hix := hb.idx (k := .i64) (i := k) (by rw [List.length_map]; exact hlt)
    rw [map_get hlt] at hix
    obtain ⟨h0, h7⟩ := hN.e _ (List.getElem_mem hlt)
    have eg : pcR p.prs[k] = [iV p.prs[k].e, iV p.prs[k].p, .bool p.prs[k].a] := rfl
    rw [eg] at hix
    have hbb : ∀ w ∈ procW p.prs[k], w.length ≤ 20 := by
      have := itoa_le h0
      have := itoa_le h7
      intro w hw
      simp only [procW, List.mem_cons, List.not_mem_nil, or_false] at hw
      rcases hw with rfl | rfl | rfl | rfl
      · decide
      · assumption
      · assumption
      · split <;> decide
    have hll := small_line ⟨hbb, by simp [procW], by simp [procW]⟩
    have rg : (⟨#[112, 114, 111, 99]⟩ : ByteArray) = bs wProc := rfl
    have ra : (⟨#[97, 117, 116, 111]⟩ : ByteArray) = bs wAuto := rfl
    have ri : (⟨#[105, 100, 108, 101]⟩ : ByteArray) = bs wIdle := rfl
    have ch : (if p.prs[k].a = true then bs wAuto else bs wIdle) = bs (if p.prs[k].a then wAuto else wIdle) := by cases p.prs[k].a <;> rfl
    have fl := A.fl
    (repeat' (first | (simp only [wp, extractV, exists_eq_left', if_true, if_false, ite_true, ite_false, reduceIte, Nat.reduceAdd, Nat.reduceLT, Nat.reduceLeDiff, Nat.reduceEqDiff, nltT hlt, hix, fl, num_spec hG (n + 1) h0, num_spec hG (n + 1) h7, choice_spec (n + 2), rg, ra, ri, ch, Run.slice]) | (with_reducible refine Run.gC ?_ ?_ <;> intro hb <;> try simp only [hb]) | (with_reducible refine Run.gG ?_ ?_ <;> intro hb <;> try simp only [hb]) | (with_reducible refine Run.gQ ?_ ?_ <;> intro hb <;> try simp only [hb])))
    refine ⟨(procW p.prs[k]).map stB, rfl, ?_⟩
    refine qline_run (n + 2) (fun l hl => by simp [visB, Heap.add_next, Heap.set_next, Heap.q_next, Heap.empty_next] at hl ⊢; omega) (rd_new _ (procW p.prs[k])) (by simp [procW]) (by rw [hr]; simp [procW]) (by omega) fun H3 f3 => ?_
    have n3 : H.next + 2 ≤ H3.next := f3.next
    have fH : Frame H H3 (fun _ => False) := (((((((Frame.add _ _).st (Nat.le_refl _) _).tr (Frame.q _ _)).tr (Frame.q _ _)).tr (Frame.q _ _)).tr (Frame.add _ _)).tr f3)
    (repeat' (first | (simp only [wp, extractV, exists_eq_left', if_true, if_false, ite_true, ite_false, reduceIte, Nat.reduceAdd, Nat.reduceLT, Nat.reduceLeDiff, Nat.reduceEqDiff]) | (with_reducible refine Run.gC ?_ ?_ <;> intro hb <;> try simp only [hb]) | (with_reducible refine Run.gG ?_ ?_ <;> intro hb <;> try simp only [hb]) | (with_reducible refine Run.gQ ?_ ?_ <;> intro hb <;> try simp only [hb])))
    refine ⟨[stB (lineL (procW p.prs[k]))], rfl, ?_⟩
    refine (A.keep fH).tapp (fun l hl => by simp [visB, Heap.add_next, Heap.set_next, Heap.q_next, Heap.empty_next] at hl ⊢; omega) (by simp only [List.length_append, List.length_map, List.length_take, List.length_cons, List.length_nil]; omega) fun y' H4 A4 => ?_
    (repeat' (first | (simp only [wp, extractV, exists_eq_left', if_true, if_false, ite_true, ite_false, reduceIte, Nat.reduceAdd, Nat.reduceLT, Nat.reduceLeDiff, Nat.reduceEqDiff, nadd hlt (show p.prs.length ≤ 9223372036854775807 by omega)]) | (with_reducible refine Run.gC ?_ ?_ <;> intro hb <;> try simp only [hb]) | (with_reducible refine Run.gG ?_ ?_ <;> intro hb <;> try simp only [hb]) | (with_reducible refine Run.gQ ?_ ?_ <;> intro hb <;> try simp only [hb])))
    refine ⟨hlt, y', rfl, ?_⟩
    rw [List.take_succ_eq_append_getElem hlt, List.map_append, ← List.append_assoc]
    exact A4
  have hk0 : k = p.prs.length := by omega
  subst hk0
  rw [List.take_length] at A
  (repeat' (first | (simp only [wp, extractV, exists_eq_left', if_true, if_false, ite_true, ite_false, reduceIte, Nat.reduceAdd, Nat.reduceLT, Nat.reduceLeDiff, Nat.reduceEqDiff, nltF hlt, A.at hb1 hz1, lc]) | (with_reducible refine Run.gC ?_ ?_ <;> intro hb <;> try simp only [hb]) | (with_reducible refine Run.gG ?_ ?_ <;> intro hb <;> try simp only [hb]) | (with_reducible refine Run.gQ ?_ ?_ <;> intro hb <;> try simp only [hb])))
  generalize eL2 : L1 ++ p.prs.map (fun c => lineL (procW c)) = L2 at A
  have n2 : L2.length ≤ 2097153 := by rw [← eL2, List.length_append, List.length_map]; omega
  clear hlt
  -- ports
  refine Run.loop (N := p.pts.length) (fun k st H => ∃ y, st = [y, iV k] ∧ Ac H1 y (L2 ++ (p.pts.take k).map (fun q => lineL (portW q))) H) ⟨_, rfl, by simpa using A⟩ ?_
  rintro k st H hk ⟨y, rfl, A⟩
  simp only [ferry_text_partLines_l3]
  by_cases hlt : k < p.pts.length
  · have hix := hc.idx (k := .i64) (i := k) (by rw [List.length_map]; exact hlt)
    rw [map_get hlt] at hix
    have hq := hN.q _ (List.getElem_mem hlt)
    have e4 : (ptR p.pts[k]).length = 4 := rfl
    have t4 : (ptR p.pts[k]).take 4 = ptR p.pts[k] := rfl
    have fl := A.fl
    (repeat' (first | (simp only [wp, extractV, exists_eq_left', if_true, if_false, ite_true, ite_false, reduceIte, Nat.reduceAdd, Nat.reduceLT, Nat.reduceLeDiff, Nat.reduceEqDiff, nltT hlt, hix, fl, e4, t4, portLine_spec hG n hq, Run.slice]) | (with_reducible refine Run.gC ?_ ?_ <;> intro hb <;> try simp only [hb]) | (with_reducible refine Run.gG ?_ ?_ <;> intro hb <;> try simp only [hb]) | (with_reducible refine Run.gQ ?_ ?_ <;> intro hb <;> try simp only [hb])))
    refine ⟨[stB (lineL (portW p.pts[k]))], rfl, ?_⟩
    have fH : Frame H ((H.add ⟨4, [[.int .i64 0, .int .i64 0, .int .i64 0, .int .i64 0]]⟩).set H.next ⟨4, [ptR p.pts[k]]⟩) (fun _ => False) := (Frame.add _ _).st (Nat.le_refl _) _
    refine (A.keep fH).app (by simp only [List.length_append, List.length_map, List.length_take, List.length_cons, List.length_nil]; omega) fun y' H4 A4 => ?_
    (repeat' (first | (simp only [wp, extractV, exists_eq_left', if_true, if_false, ite_true, ite_false, reduceIte, Nat.reduceAdd, Nat.reduceLT, Nat.reduceLeDiff, Nat.reduceEqDiff, nadd hlt (show p.pts.length ≤ 9223372036854775807 by omega)]) | (with_reducible refine Run.gC ?_ ?_ <;> intro hb <;> try simp only [hb]) | (with_reducible refine Run.gG ?_ ?_ <;> intro hb <;> try simp only [hb]) | (with_reducible refine Run.gQ ?_ ?_ <;> intro hb <;> try simp only [hb])))
    refine ⟨hlt, y', rfl, ?_⟩
    rw [List.take_succ_eq_append_getElem hlt, List.map_append, ← List.append_assoc]
    exact A4
  have hk0 : k = p.pts.length := by omega
  subst hk0
  rw [List.take_length] at A
  generalize eL3 : L2 ++ p.pts.map (fun q => lineL (portW q)) = L3 at A
  have n3 : L3.length ≤ 3145729 := by rw [← eL3, List.length_append, List.length_map]; omega
  -- what is left: the numbers of the semaphores
  have tail : ∀ (L : List (List UInt8)) (y : V) (H : Heap), L.length ≤ 3145730 → partL p home = L ++ p.sems.map (fun m => lineL (semW m)) → Ac H1 y L H →
      Run (ferry_text_partLines_j1 G (sem (cfg G) (n + 3)) (.ptr 0 0 0) .nils y) H fun r H' => ∃ g, giveV H' (r.2.getD 0 .undef) = some g ∧ Run (takeV g) H0 fun x H' => Own H' x 1 ((partL p home).map stB) ∧ Frame H0 H' (fun _ => False) ∧ ∀ l, loc x = some l → H0.next ≤ l := by
    intro L y H hL eP A
    simp only [ferry_text_partLines_j1]
    (repeat' (first | (simp only [wp, extractV, exists_eq_left', if_true, if_false, ite_true, ite_false, reduceIte, Nat.reduceAdd, Nat.reduceLT, Nat.reduceLeDiff, Nat.reduceEqDiff, A.at hb1 hz1, ld]) | (with_reducible refine Run.gC ?_ ?_ <;> intro hb <;> try simp only [hb]) | (with_reducible refine Run.gG ?_ ?_ <;> intro hb <;> try simp only [hb]) | (with_reducible refine Run.gQ ?_ ?_ <;> intro hb <;> try simp only [hb])))
    refine Run.loop (N := p.sems.length) (fun k st H => ∃ y, st = [y, iV k] ∧ Ac H1 y (L ++ (p.sems.take k).map (fun m => lineL (semW m))) H) ⟨_, rfl, by simpa using A⟩ ?_
    rintro k st H hk ⟨y, rfl, A⟩
    simp only [ferry_text_partLines_l4]
    by_cases hlt : k < p.sems.length
    · have hix := hd.idx (k := .i64) (i := k) (by rw [List.length_map]; exact hlt)
      rw [map_get hlt] at hix
      have hm := hN.sm _ (List.getElem_mem hlt)
      have ei : (iR p.sems[k])[0]? = some (.int .i64 p.sems[k]) := rfl
      have hbb : ∀ w ∈ semW p.sems[k], w.length ≤ 20 := by
        have := itoa_le hm
        intro w hw
        simp only [semW, List.mem_cons, List.not_mem_nil, or_false] at hw
        rcases hw with rfl | rfl
        · decide
        · assumption
      have hll := small_line ⟨hbb, by simp [semW], by simp [semW]⟩
      have rg : (⟨#[115, 101, 109]⟩ : ByteArray) = bs wSem := rfl
      have fl := A.fl
      (repeat' (first | (simp only [wp, extractV, exists_eq_left', if_true, if_false, ite_true, ite_false, reduceIte, Nat.reduceAdd, Nat.reduceLT, Nat.reduceLeDiff, Nat.reduceEqDiff, nltT hlt, hix, ei, fl, num_spec hG (n + 1) hm, rg, Run.slice]) | (with_reducible refine Run.gC ?_ ?_ <;> intro hb <;> try simp only [hb]) | (with_reducible refine Run.gG ?_ ?_ <;> intro hb <;> try simp only [hb]) | (with_reducible refine Run.gQ ?_ ?_ <;> intro hb <;> try simp only [hb])))
      refine ⟨(semW p.sems[k]).map stB, rfl, ?_⟩
      refine line_run (n + 2) (rd_new _ (semW p.sems[k])) (by simp [semW]) (by rw [hr]; simp [semW]) (by omega) ?_
      (repeat' (first | (simp only [wp, extractV, exists_eq_left', if_true, if_false, ite_true, ite_false, reduceIte, Nat.reduceAdd, Nat.reduceLT, Nat.reduceLeDiff, Nat.reduceEqDiff, Run.slice]) | (with_reducible refine Run.gC ?_ ?_ <;> intro hb <;> try simp only [hb]) | (with_reducible refine Run.gG ?_ ?_ <;> intro hb <;> try simp only [hb]) | (with_reducible refine Run.gQ ?_ ?_ <;> intro hb <;> try simp only [hb])))
      refine ⟨[stB (lineL (semW p.sems[k]))], rfl, ?_⟩
      refine (A.keep (Frame.add _ _)).app (by simp only [List.length_append, List.length_map, List.length_take, List.length_cons, List.length_nil]; omega) fun y' H4 A4 => ?_
      (repeat' (first | (simp only [wp, extractV, exists_eq_left', if_true, if_false, ite_true, ite_false, reduceIte, Nat.reduceAdd, Nat.reduceLT, Nat.reduceLeDiff, Nat.reduceEqDiff, nadd hlt (show p.sems.length ≤ 9223372036854775807 by omega)]) | (with_reducible refine Run.gC ?_ ?_ <;> intro hb <;> try simp only [hb]) | (with_reducible refine Run.gG ?_ ?_ <;> intro hb <;> try simp only [hb]) | (with_reducible refine Run.gQ ?_ ?_ <;> intro hb <;> try simp only [hb])))
      refine ⟨hlt, y', rfl, ?_⟩
      rw [List.take_succ_eq_append_getElem hlt, List.map_append, ← List.append_assoc]
      exact A4
    have hk0 : k = p.sems.length := by omega
    subst hk0
    rw [List.take_length, ← eP] at A
    (repeat' (first | (simp only [wp, extractV, exists_eq_left', if_true, if_false, ite_true, ite_false, reduceIte, Nat.reduceAdd, Nat.reduceLT, Nat.reduceLeDiff, Nat.reduceEqDiff, nltF hlt]) | (with_reducible refine Run.gC ?_ ?_ <;> intro hb <;> try simp only [hb]) | (with_reducible refine Run.gG ?_ ?_ <;> intro hb <;> try simp only [hb]) | (with_reducible refine Run.gQ ?_ ?_ <;> intro hb <;> try simp only [hb])))
    exact A.o.hand (flat_stB _) hH
  have eL : L3 = [lineL (partW p home)] ++ p.pgs.map (fun g => lineL (pageW g)) ++ p.prs.map (fun c => lineL (procW c)) ++ p.pts.map (fun q => lineL (portW q)) := by rw [← eL3, ← eL2, ← eL1, ← eL0]
  by_cases h0 : p.ev = 0
  · have e0 : (p.ev == 0) = true := beq_iff_eq.2 h0
    (repeat' (first | (simp only [wp, extractV, exists_eq_left', if_true, if_false, ite_true, ite_false, reduceIte, Nat.reduceAdd, Nat.reduceLT, Nat.reduceLeDiff, Nat.reduceEqDiff, nltF hlt, A.at hb1 hz1, e0]) | (with_reducible refine Run.gC ?_ ?_ <;> intro hb <;> try simp only [hb]) | (with_reducible refine Run.gG ?_ ?_ <;> intro hb <;> try simp only [hb]) | (with_reducible refine Run.gQ ?_ ?_ <;> intro hb <;> try simp only [hb])))
    refine tail L3 y H (by omega) ?_ A
    rw [partL, if_pos h0, ← eL, List.append_nil]
  · have e0 : (p.ev == 0) = false := beq_eq_false_iff_ne.2 h0
    have hev := hN.ev
    have hbb : ∀ w ∈ evW p.ev, w.length ≤ 20 := by
      have := itoa_le hev
      intro w hw
      simp only [evW, List.mem_cons, List.not_mem_nil, or_false] at hw
      rcases hw with rfl | rfl
      · decide
      · assumption
    have hll := small_line ⟨hbb, by simp [evW], by simp [evW]⟩
    have rg : (⟨#[101, 118, 101, 110, 116, 115]⟩ : ByteArray) = bs wEv := rfl
    (repeat' (first | (simp only [wp, extractV, exists_eq_left', if_true, if_false, ite_true, ite_false, reduceIte, Nat.reduceAdd, Nat.reduceLT, Nat.reduceLeDiff, Nat.reduceEqDiff, nltF hlt, A.at hb1 hz1, e0, num_spec hG (n + 1) hev, rg, Run.slice]) | (with_reducible refine Run.gC ?_ ?_ <;> intro hb <;> try simp only [hb]) | (with_reducible refine Run.gG ?_ ?_ <;> intro hb <;> try simp only [hb]) | (with_reducible refine Run.gQ ?_ ?_ <;> intro hb <;> try simp only [hb])))
    refine ⟨(evW p.ev).map stB, rfl, ?_⟩
    refine line_run (n + 2) (rd_new _ (evW p.ev)) (by simp [evW]) (by rw [hr]; simp [evW]) (by omega) ?_
    (repeat' (first | (simp only [wp, extractV, exists_eq_left', if_true, if_false, ite_true, ite_false, reduceIte, Nat.reduceAdd, Nat.reduceLT, Nat.reduceLeDiff, Nat.reduceEqDiff, Run.slice]) | (with_reducible refine Run.gC ?_ ?_ <;> intro hb <;> try simp only [hb]) | (with_reducible refine Run.gG ?_ ?_ <;> intro hb <;> try simp only [hb]) | (with_reducible refine Run.gQ ?_ ?_ <;> intro hb <;> try simp only [hb])))
    refine ⟨[stB (lineL (evW p.ev))], rfl, ?_⟩
    refine (A.keep (Frame.add _ _)).app (by omega) fun y' H4 A4 => ?_
    (repeat' (first | (simp only [wp, extractV, exists_eq_left', if_true, if_false, ite_true, ite_false, reduceIte, Nat.reduceAdd, Nat.reduceLT, Nat.reduceLeDiff, Nat.reduceEqDiff]) | (with_reducible refine Run.gC ?_ ?_ <;> intro hb <;> try simp only [hb]) | (with_reducible refine Run.gG ?_ ?_ <;> intro hb <;> try simp only [hb]) | (with_reducible refine Run.gQ ?_ ?_ <;> intro hb <;> try simp only [hb])))
    refine tail (L3 ++ [lineL (evW p.ev)]) y' H4 (by rw [List.length_append]; simp; omega) ?_ A4
    rw [partL, if_neg h0, ← eL]
end Go.Fv.Tr
