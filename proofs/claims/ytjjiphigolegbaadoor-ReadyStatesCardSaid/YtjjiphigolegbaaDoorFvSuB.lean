/-
  A state's table taken out: the program's and the document's way; tables compared. By an AI agent; no person has read it.
-/
import Derived.Test.YtjjiphigolegbaaDoorFvSuA
set_option linter.unusedVariables false
set_option linter.unusedSimpArgs false
set_option linter.unusedSectionVars false
/-! A state's table taken out: the program's and the document's way; tables compared. -/
namespace Go.Fv.Tr
open Go Go.Fv Go.Fv.Pl Go.Proofs
set_option linter.unusedSimpArgs false
set_option linter.unusedVariables false
variable {G : Nat → Option (List V)}

theorem copied_run (n : Nat) {H : Heap} {q : Nat → Prop} {x y z : V} {t : Tab} (h : RdTab H q x y z t) (hb : TB t) (hH : H.floor ≤ H.next) :
    Run (callV (cfg G) (sem (cfg G) (n + 2)) 75 [.agg [x, y, z]]) H (NewTab H t) := by
  obtain ⟨a, b, c, e, i⟩ := h.thaw hb
  exact Run.callOwn rfl (bs := [.agg [a, b, c]]) (by simp [e]) (by simp [i.closed]) (copied_spec n i hb.fit hH)

theorem to_run (n : Nat) {H : Heap} {q : Nat → Prop} {x y z : V} {t : Tab} (h : RdTab H q x y z t) (hf : H.floor ≤ H.next) :
    Run (callV (cfg G) (sem (cfg G) (n + 1)) 17 [.agg [x, y, z]]) H fun v H' => v = .agg [x, y, z] ∧ Frame H H' (fun _ => False) := by
  rw [callV_inl rfl, ferry_ferrylaw09_to_eq]
  simp only [ferry_ferrylaw09_to]
  have n1 : ¬ (H.next = H.next + 1) := by omega
  have f1 : H.floor ≤ H.next + 1 := by omega
  (repeat' (first | (simp only [wp, extractV, exists_eq_left', if_true, if_false, ite_true, ite_false, reduceIte, Nat.reduceAdd, Nat.reduceLT, Nat.reduceLeDiff, Nat.reduceEqDiff, buildV, fill, putRow, h.rp.cells, h.rq.cells, h.rs.cells, tupV, n1, f1]) | (with_reducible refine Run.gC ?_ ?_ <;> intro hb <;> try simp only [hb]) | (with_reducible refine Run.gG ?_ ?_ <;> intro hb <;> try simp only [hb]) | (with_reducible refine Run.gQ ?_ ?_ <;> intro hb <;> try simp only [hb])))
  exact ((Frame.add _ _).ad _).st (Nat.le_succ _) _
theorem from_run (n : Nat) {H : Heap} {q : Nat → Prop} {x y z : V} {t : Tab} (h : RdTab H q x y z t) (hf : H.floor ≤ H.next) :
    Run (callV (cfg G) (sem (cfg G) (n + 1)) 26 [.agg [x, y, z]]) H fun v H' => v = .agg [x, y, z] ∧ Frame H H' (fun _ => False) := by
  rw [callV_inl rfl, ferry_ferrylaw09_from_eq]
  simp only [ferry_ferrylaw09_from]
  have n1 : ¬ (H.next = H.next + 1) := by omega
  have f1 : H.floor ≤ H.next + 1 := by omega
  (repeat' (first | (simp only [wp, extractV, exists_eq_left', if_true, if_false, ite_true, ite_false, reduceIte, Nat.reduceAdd, Nat.reduceLT, Nat.reduceLeDiff, Nat.reduceEqDiff, buildV, fill, putRow, h.rp.cells, h.rq.cells, h.rs.cells, tupV, n1, f1]) | (with_reducible refine Run.gC ?_ ?_ <;> intro hb <;> try simp only [hb]) | (with_reducible refine Run.gG ?_ ?_ <;> intro hb <;> try simp only [hb]) | (with_reducible refine Run.gQ ?_ ?_ <;> intro hb <;> try simp only [hb])))
  exact ((Frame.add _ _).ad _).st (Nat.le_succ _) _

/-! ### States -/
structure Po where
  msgs : List ByteArray
  age : Int
structure Pa where
  r : Int
  d : Bool
  data : List Int
structure Sd where
  id : Int
  fr : Int
  ep : Int
  t : Tab
  up : List Bool
  sems : List Int
  ports : List Po
  pages : List Pa
def boR (b : Bool) : List V := [.bool b]
def stR (s : ByteArray) : List V := [.str s]
def paR (p : Pa) : List V := i64 p.r :: .bool p.d :: p.data.map fun n => V.int .u8 n
theorem flat_bo (l : List Bool) : flatRows (l.map boR) = true := by simp [flatRows, boR, V.flat]
theorem flat_st (l : List ByteArray) : flatRows (l.map stR) = true := by simp [flatRows, stR, V.flat]
theorem flat_pa (l : List Pa) : flatRows (l.map paR) = true := by simp [flatRows, paR, V.flat]
def PoR (H : Heap) (q : Nat → Prop) (row : List V) (p : Po) : Prop := ∃ m, row = [m, i64 p.age] ∧ Rd H m 1 (p.msgs.map stR) ∧ ∀ l, loc m = some l → q l
theorem PoR.frame {H H' : Heap} {q r : Nat → Prop} {row : List V} {p : Po} (h : PoR H q row p) (f : Frame H H' r) (hr : ∀ l, q l → ¬ r l) : PoR H' q row p := by
  obtain ⟨m, e, rm, lm⟩ := h
  exact ⟨m, e, rm.frame f fun l hl => hr l (lm l hl), lm⟩
theorem PoR.same {H H' : Heap} {q : Nat → Prop} {row : List V} {p : Po} (h : PoR H q row p) (hb : H'.blk = H.blk) (hn : H'.next = H.next) : PoR H' q row p := by
  obtain ⟨m, e, rm, lm⟩ := h
  exact ⟨m, e, rm.same hb hn, lm⟩
theorem PoR.in_ {H K : Heap} {q : Nat → Prop} {row : List V} {p : Po} (h : PoR H q row p) (hn : K.next = H.next) (hb : ∀ l, l < H.next → K.blk l = H.blk l) : PoR K q row p := by
  obtain ⟨m, e, rm, lm⟩ := h
  exact ⟨m, e, rm.in_ hn hb, lm⟩
theorem PoR.imp {H : Heap} {q q' : Nat → Prop} {row : List V} {p : Po} (h : PoR H q row p) (hq : ∀ l, l < H.next → q l → q' l) : PoR H q' row p := by
  obtain ⟨m, e, rm, lm⟩ := h
  exact ⟨m, e, rm, fun l hl => hq l (rm.lt hl) (lm l hl)⟩
/-- What bounds there are. -/
structure SB (s : Sd) : Prop where
  t : TB s.t
  up : s.up.length * 1 ≤ room ∧ s.up.length ≤ big
  sems : s.sems.length * 8 ≤ room ∧ s.sems.length ≤ big
  ports : s.ports.length * 32 ≤ room ∧ s.ports.length ≤ big
  pages : s.pages.length * 80 ≤ room ∧ s.pages.length ≤ big
  msgs : ∀ p ∈ s.ports, p.msgs.length * 16 ≤ room ∧ p.msgs.length ≤ big
  data : ∀ p ∈ s.pages, p.data.length = 64
structure RdSt (H : Heap) (q : Nat → Prop) (l : List V) (s : Sd) (x y z a b c d : V) (pr : List (List V)) : Prop where
  eq : l = [i64 s.id, i64 s.fr, i64 s.ep, x, y, z, a, b, c, d]
  t : RdTab H q x y z s.t
  up : Rd H a 1 (s.up.map boR)
  sems : Rd H b 1 (s.sems.map intRow)
  ports : Rd H c 2 pr
  pages : Rd H d 66 (s.pages.map paR)
  plen : pr.length = s.ports.length
  prow : ∀ (j : Nat) (hj : j < pr.length), PoR H q pr[j] (s.ports[j]'(by rw [← plen]; exact hj))
  la : ∀ l, loc a = some l → q l
  lb : ∀ l, loc b = some l → q l
  lc : ∀ l, loc c = some l → q l
  ld : ∀ l, loc d = some l → q l
theorem RdSt.frame {H H' : Heap} {q r : Nat → Prop} {l : List V} {s : Sd} {x y z a b c d : V} {pr : List (List V)} (h : RdSt H q l s x y z a b c d pr) (f : Frame H H' r) (hr : ∀ l, q l → ¬ r l) : RdSt H' q l s x y z a b c d pr :=
  ⟨h.eq, h.t.frame f hr, h.up.frame f fun l hl => hr l (h.la l hl), h.sems.frame f fun l hl => hr l (h.lb l hl), h.ports.frame f fun l hl => hr l (h.lc l hl), h.pages.frame f fun l hl => hr l (h.ld l hl), h.plen, fun j hj => (h.prow j hj).frame f hr, h.la, h.lb, h.lc, h.ld⟩
theorem RdSt.same {H H' : Heap} {q : Nat → Prop} {l : List V} {s : Sd} {x y z a b c d : V} {pr : List (List V)} (h : RdSt H q l s x y z a b c d pr) (hb : H'.blk = H.blk) (hn : H'.next = H.next) : RdSt H' q l s x y z a b c d pr :=
  ⟨h.eq, h.t.same hb hn, h.up.same hb hn, h.sems.same hb hn, h.ports.same hb hn, h.pages.same hb hn, h.plen, fun j hj => (h.prow j hj).same hb hn, h.la, h.lb, h.lc, h.ld⟩
theorem RdSt.in_ {H K : Heap} {q : Nat → Prop} {l : List V} {s : Sd} {x y z a b c d : V} {pr : List (List V)} (h : RdSt H q l s x y z a b c d pr) (hn : K.next = H.next) (hb : ∀ l, l < H.next → K.blk l = H.blk l) : RdSt K q l s x y z a b c d pr :=
  ⟨h.eq, h.t.in_ hn hb, h.up.in_ hn hb, h.sems.in_ hn hb, h.ports.in_ hn hb, h.pages.in_ hn hb, h.plen, fun j hj => (h.prow j hj).in_ hn hb, h.la, h.lb, h.lc, h.ld⟩
theorem RdSt.imp {H : Heap} {q q' : Nat → Prop} {l : List V} {s : Sd} {x y z a b c d : V} {pr : List (List V)} (h : RdSt H q l s x y z a b c d pr) (hq : ∀ l, l < H.next → q l → q' l) : RdSt H q' l s x y z a b c d pr :=
  ⟨h.eq, h.t.imp hq, h.up, h.sems, h.ports, h.pages, h.plen, fun j hj => (h.prow j hj).imp hq, fun l hl => hq l (h.up.lt hl) (h.la l hl), fun l hl => hq l (h.sems.lt hl) (h.lb l hl), fun l hl => hq l (h.ports.lt hl) (h.lc l hl), fun l hl => hq l (h.pages.lt hl) (h.ld l hl)⟩

set_option maxRecDepth 20000 in
theorem of_run (n : Nat) {H : Heap} {q : Nat → Prop} {l : List V} {s : Sd} {x y z a b c d : V} {pr : List (List V)} (h : RdSt H q l s x y z a b c d pr) (hs : SB s) (hf : H.floor ≤ H.next) :
    Run (callV (cfg G) (sem (cfg G) (n + 2)) 23 [.agg l]) H fun v H' => Frame H H' (fun _ => False) ∧ ∃ x' y' z', v = .agg [x', y', z'] ∧ RdTab H' (fun l => H.next ≤ l) x' y' z' s.t := by
  obtain ⟨rfl, ht, _⟩ := h
  rw [callV_inl rfl, ferry_ready_Of_eq]
  simp only [ferry_ready_Of]
  have n1 : ¬ (H.next = H.next + 1) := by omega
  (repeat' (first | (simp only [wp, extractV, exists_eq_left', if_true, if_false, ite_true, ite_false, reduceIte, Nat.reduceAdd, Nat.reduceLT, Nat.reduceLeDiff, Nat.reduceEqDiff, n1]) | (with_reducible refine Run.gC ?_ ?_ <;> intro hb <;> try simp only [hb]) | (with_reducible refine Run.gG ?_ ?_ <;> intro hb <;> try simp only [hb]) | (with_reducible refine Run.gQ ?_ ?_ <;> intro hb <;> try simp only [hb])))
  have f0 : Frame H ((H.add ⟨10, [[i64 s.id, i64 s.fr, i64 s.ep, x, y, z, a, b, c, d]]⟩).add ⟨3, [[.nils, .nils, .nils]]⟩) (fun _ => False) := (Frame.add _ _).ad _
  have nx0 : H.next + 2 ≤ ((H.add ⟨10, [[i64 s.id, i64 s.fr, i64 s.ep, x, y, z, a, b, c, d]]⟩).add ⟨3, [[.nils, .nils, .nils]]⟩).next := Nat.le_refl _
  have fl0 : H.floor ≤ H.next + 2 := by omega
  refine Run.qAll (P := fun y K' => Rd K' y 21 (s.t.ps.map prRow) ∧ ∀ l, loc y = some l → H.next + 2 ≤ l) (fun l hl => by simp [visB, Heap.add_next, Heap.set_next] at hl ⊢; omega) (fun K k1 k2 k3 => ?_) fun y1 K1 H1 ⟨o1, l1⟩ f1 g1 e1 => ?_
  · refine (New.seen rfl ((ht.rp.frame f0 (fun _ _ => id)).in_ k1 k3) (flat_pr _) (fun u hu => clone72 _ hu (flat_pr _) (by simpa using hs.t.fit.p) k2)).mono fun y K' ⟨o, f, g⟩ => ⟨f, o.rd, fun l hl => ?_⟩
    have := g l hl
    rw [k1] at this
    exact Nat.le_trans nx0 this
  have o1 := o1.same g1 e1
  have b0 : H1.blk H.next = some ⟨10, [[i64 s.id, i64 s.fr, i64 s.ep, x, y, z, a, b, c, d]]⟩ := by rw [f1.old _ (by omega) id, Heap.add_blk, if_neg (by exact n1), Heap.add_blk, if_pos rfl]
  have b1 : H1.blk (H.next + 1) = some ⟨3, [[.nils, .nils, .nils]]⟩ := by rw [f1.old _ (by omega) id]; exact if_pos rfl
  have F1 := f0.tr f1
  have N1 := Nat.le_trans nx0 f1.next
  (repeat' (first | (simp only [wp, extractV, exists_eq_left', if_true, if_false, ite_true, ite_false, reduceIte, Nat.reduceAdd, Nat.reduceLT, Nat.reduceLeDiff, Nat.reduceEqDiff, b0]) | (with_reducible refine Run.gC ?_ ?_ <;> intro hb <;> try simp only [hb]) | (with_reducible refine Run.gG ?_ ?_ <;> intro hb <;> try simp only [hb]) | (with_reducible refine Run.gQ ?_ ?_ <;> intro hb <;> try simp only [hb])))
  refine Run.qAll (P := fun y K' => Rd K' y 1 (s.t.q.map intRow) ∧ ∀ l, loc y = some l → H1.next ≤ l) (fun l hl => by simp [visB, Heap.add_next, Heap.set_next] at hl ⊢; omega) (fun K k1 k2 k3 => ?_) fun y2 K2 H2 ⟨o2, l2⟩ f2 g2 e2 => ?_
  · refine (New.seen rfl ((ht.rq.frame F1 (fun _ _ => id)).in_ k1 k3) (flat_ir _) (fun u hu => clone73 _ hu (flat_ir _) (by simpa using hs.t.fit.q) k2)).mono fun y K' ⟨o, f, g⟩ => ⟨f, o.rd, fun l hl => ?_⟩
    have := g l hl
    rw [k1] at this
    exact this
  have o2 := o2.same g2 e2
  have b0 := (f2.old _ (by omega) id).trans b0
  have b1 := (f2.old _ (by omega) id).trans b1
  have F2 := F1.tr f2
  have N2 := Nat.le_trans N1 f2.next
  (repeat' (first | (simp only [wp, extractV, exists_eq_left', if_true, if_false, ite_true, ite_false, reduceIte, Nat.reduceAdd, Nat.reduceLT, Nat.reduceLeDiff, Nat.reduceEqDiff, b0]) | (with_reducible refine Run.gC ?_ ?_ <;> intro hb <;> try simp only [hb]) | (with_reducible refine Run.gG ?_ ?_ <;> intro hb <;> try simp only [hb]) | (with_reducible refine Run.gQ ?_ ?_ <;> intro hb <;> try simp only [hb])))
  refine Run.qAll (P := fun y K' => Rd K' y 2 (s.t.ts.map tmRow) ∧ ∀ l, loc y = some l → H2.next ≤ l) (fun l hl => by simp [visB, Heap.add_next, Heap.set_next] at hl ⊢; omega) (fun K k1 k2 k3 => ?_) fun y3 K3 H3 ⟨o3, l3⟩ f3 g3 e3 => ?_
  · refine (New.seen rfl ((ht.rs.frame F2 (fun _ _ => id)).in_ k1 k3) (flat_tm _) (fun u hu => clone74 _ hu (flat_tm _) (by simpa using hs.t.fit.s) k2)).mono fun y K' ⟨o, f, g⟩ => ⟨f, o.rd, fun l hl => ?_⟩
    have := g l hl
    rw [k1] at this
    exact this
  have o3 := o3.same g3 e3
  have b1 := (f3.old _ (by omega) id).trans b1
  have F3 := F2.tr f3
  have N3 := Nat.le_trans N2 f3.next
  have fl3 : H3.floor ≤ H.next + 1 := by rw [F3.floor]; omega
  (repeat' (first | (simp only [wp, extractV, exists_eq_left', if_true, if_false, ite_true, ite_false, reduceIte, Nat.reduceAdd, Nat.reduceLT, Nat.reduceLeDiff, Nat.reduceEqDiff, b1, fl3, buildV, fill, putRow, o1.cells, o2.cells, o3.cells, tupV]) | (with_reducible refine Run.gC ?_ ?_ <;> intro hb <;> try simp only [hb]) | (with_reducible refine Run.gG ?_ ?_ <;> intro hb <;> try simp only [hb]) | (with_reducible refine Run.gQ ?_ ?_ <;> intro hb <;> try simp only [hb])))
  have fz : Frame H3 (H3.set (H.next + 1) ⟨3, [[y1, y2, y3]]⟩) (fun l => l = H.next + 1) := Frame.set _ _ rfl
  have n2 := f2.next
  refine ⟨F3.st (Nat.le_succ _) _, y1, y2, y3, rfl, ((o1.frame f2 (fun _ _ => id)).frame f3 (fun _ _ => id)).frame fz fun l hl e => ?_, (o2.frame f3 (fun _ _ => id)).frame fz fun l hl e => ?_, o3.frame fz fun l hl e => ?_, fun l hl => ?_, fun l hl => ?_, fun l hl => ?_⟩
  · have := l1 l hl; omega
  · have := l2 l hl; omega
  · have := l3 l hl; omega
  · have := l1 l hl; omega
  · have := l2 l hl; omega
  · have := l3 l hl; omega
set_option maxRecDepth 20000 in
theorem refOf_run (n : Nat) {H : Heap} {q : Nat → Prop} {l : List V} {s : Sd} {x y z a b c d : V} {pr : List (List V)} (h : RdSt H q l s x y z a b c d pr) (hf : H.floor ≤ H.next) :
    Run (callV (cfg G) (sem (cfg G) (n + 1)) 22 [.agg l]) H fun v H' => Frame H H' (fun _ => False) ∧ v = .agg [x, y, z] := by
  obtain ⟨rfl, ht, _⟩ := h
  rw [callV_inl rfl, ferry_ferryref09_Of_eq]
  simp only [ferry_ferryref09_Of]
  have n1 : ¬ (H.next = H.next + 1) := by omega
  have f1 : H.floor ≤ H.next + 1 := by omega
  (repeat' (first | (simp only [wp, extractV, exists_eq_left', if_true, if_false, ite_true, ite_false, reduceIte, Nat.reduceAdd, Nat.reduceLT, Nat.reduceLeDiff, Nat.reduceEqDiff, buildV, fill, putRow, ht.rp.cells, ht.rq.cells, ht.rs.cells, tupV, n1, f1]) | (with_reducible refine Run.gC ?_ ?_ <;> intro hb <;> try simp only [hb]) | (with_reducible refine Run.gG ?_ ?_ <;> intro hb <;> try simp only [hb]) | (with_reducible refine Run.gQ ?_ ?_ <;> intro hb <;> try simp only [hb])))
  exact ((Frame.add _ _).ad _).st (Nat.le_succ _) _
end Go.Fv.Tr
