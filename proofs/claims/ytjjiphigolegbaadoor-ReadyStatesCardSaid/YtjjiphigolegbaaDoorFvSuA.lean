/-
  A state's table taken out and laid in: the data; what is copied, what is compared. By an AI agent; no person has read it.
-/
import Derived.Test.YtjjiphigolegbaaDoorFvSpC
import Derived.Test.YtjjiphigolegbaaDoorFvTr3
import Derived.Test.YtjjiphigolegbaaDoorFvTr8
import Derived.Test.YtjjiphigolegbaaDoorFvTr30
import Derived.Test.YtjjiphigolegbaaDoorFvStr
import Derived.Test.YtjjiphigolegbaaDoorFvRd
set_option linter.unusedVariables false
set_option linter.unusedSimpArgs false
set_option linter.unusedSectionVars false
/-! A state's table taken out and laid in: the data; what is copied, what is compared. -/
namespace Go.Fv
open Go
section
variable {H : Heap}
/-- A step that sees all that there is, and makes new memory alone. -/
theorem Run.qAll {v : Nat → Bool} {m : M V} {P Q : V → Heap → Prop} (hv : ∀ l, l < H.next → v l = true)
    (h : ∀ K : Heap, K.next = H.next → K.floor ≤ K.next → (∀ l, l < H.next → K.blk l = H.blk l) → Run m K fun y K' => Frame K K' (fun _ => False) ∧ P y K')
    (q : ∀ y K' H', P y K' → Frame H H' (fun _ => False) → H'.blk = K'.blk → H'.next = K'.next → Q y H') : Run (qrun v m) H Q := by
  refine Run.qrunI ((h ⟨fun l => if v l then H.blk l else none, H.next, H.next⟩ rfl (Nat.le_refl _) (fun l hl => by simp only [hv l hl, if_true])).mono fun y K' ⟨f, p⟩ => ?_)
  refine q y K' _ p ⟨f.next, rfl, fun l hl _ => if_pos hl⟩ ?_ rfl
  funext l
  show (if l < H.next then H.blk l else K'.blk l) = K'.blk l
  by_cases hl : l < H.next
  · rw [if_pos hl, f.old l hl id]
    simp only [hv l hl, if_true]
  · rw [if_neg hl]
theorem Run.tAll {v : Nat → Bool} {m : M V} {P Q : V → Heap → Prop} (hv : ∀ l, l < H.next → v l = true)
    (h : ∀ K : Heap, K.next = H.next → K.floor = H.floor → (∀ l, l < H.next → K.blk l = H.blk l) → Run m K fun y K' => Frame K K' (fun _ => False) ∧ P y K')
    (q : ∀ y K' H', P y K' → Frame H H' (fun _ => False) → H'.blk = K'.blk → H'.next = K'.next → Q y H') : Run (trun v m) H Q := by
  refine Run.trunI ((h ⟨fun l => if v l then H.blk l else none, H.next, H.floor⟩ rfl rfl (fun l hl => by simp only [hv l hl, if_true])).mono fun y K' ⟨f, p⟩ => ?_)
  have e : ∀ l, l < H.next → K'.blk l = H.blk l := fun l hl => by rw [f.old l hl id]; simp only [hv l hl, if_true]
  refine q y K' _ p ⟨f.next, rfl, fun l hl _ => ?_⟩ ?_ rfl
  · show (if l < H.next then (if v l && decide (H.floor ≤ l) && (H.blk l).isSome then K'.blk l else H.blk l) else K'.blk l) = H.blk l
    rw [if_pos hl]
    split
    · exact e l hl
    · rfl
  · funext l
    show (if l < H.next then (if v l && decide (H.floor ≤ l) && (H.blk l).isSome then K'.blk l else H.blk l) else K'.blk l) = K'.blk l
    by_cases hl : l < H.next
    · rw [if_pos hl]
      split
      · rfl
      · exact (e l hl).symm
    · rw [if_neg hl]
theorem Rd.same {K' H' : Heap} {x : V} {sz : Nat} {rows : List (List V)} (h : Rd K' x sz rows) (hb : H'.blk = K'.blk) (hn : H'.next = K'.next) : Rd H' x sz rows :=
  h.keep (by omega) fun l _ => by rw [hb]
theorem Rd.in_ {K : Heap} {x : V} {sz : Nat} {rows : List (List V)} (h : Rd H x sz rows) (hn : K.next = H.next) (hb : ∀ l, l < H.next → K.blk l = H.blk l) : Rd K x sz rows :=
  h.keep (by omega) fun l hl => hb l (h.lt hl)
theorem Run.appX {bytes : Nat} {x : V} {sz : Nat} {rows : List (List V)} (hH : H.floor ≤ H.next) (hx : Rd H x sz rows) (hr : rows.length * bytes ≤ room) :
    Run (appV sz bytes .emp x) H fun y H' => Own H' y sz rows ∧ Frame H H' (fun _ => False) ∧ ∀ m, loc y = some m → H.next ≤ m :=
  (Run.app hH (Own.emp H sz) hx.items (by simpa using hr)).mono fun y H' ⟨o, f, l⟩ => ⟨by simpa using o, f.mono (fun m _ h => (by cases h)), fun m hm => (l m hm).resolve_left (by intro h; cases h)⟩
theorem Frame.tr {H' H'' : Heap} (a : Frame H H' (fun _ => False)) (b : Frame H' H'' (fun _ => False)) : Frame H H'' (fun _ => False) := a.trans b (fun _ _ h => h) (fun _ _ h => h)
theorem Frame.ad {H' : Heap} (a : Frame H H' (fun _ => False)) (b : Blk) : Frame H (H'.add b) (fun _ => False) := a.tr (Frame.add _ _)
theorem Frame.st {H' : Heap} (a : Frame H H' (fun _ => False)) {l : Nat} (hl : H.next ≤ l) (b : Blk) : Frame H (H'.set l b) (fun _ => False) :=
  ⟨a.next, a.floor, fun m hm _ => by rw [Heap.set_blk, if_neg (by omega)]; exact a.old m hm id⟩
theorem Run.callSeen {C : Cfg} {call : FuncId → List V → M V} {f : FuncId} {args bs : List V} {r : V} {Q : V → Heap → Prop} (hk : C.kind f = .pure) (hm : args.mapM (thawV true H) = some bs)
    (hr : Run (call f bs) Heap.empty fun v _ => v = r) (hc : ∀ ok H', thawV ok H' r = some r) (q : Q r H) : Run (callV C call f args) H Q := by
  obtain ⟨v, H', e, rfl⟩ := hr
  refine ⟨v, H, ?_, q⟩
  simp only [callV, hk, callP, hm, Option.bind_some, e, hc]
  rfl
end
end Go.Fv
namespace Go.Fv.Tr
open Go Go.Fv Go.Fv.Pl Go.Proofs
set_option linter.unusedSimpArgs false
set_option linter.unusedVariables false
variable {G : Nat → Option (List V)}

theorem thaw_b (ok : Bool) (H : Heap) (b : Bool) : thawV ok H (.bool b) = some (.bool b) := by simp [thawV, Fv.thaw, V.flat]
theorem loc_sls {x : V} {sz : Nat} {rows : List (List V)} (h : Sls x sz rows) {m : Nat} (hm : loc x = some m) : False := by
  rcases h with rfl | ⟨_, rfl | rfl⟩ <;> cases hm

/-! ### Tables, each list whoever's memory it shows -/
structure TB (t : Tab) : Prop where
  wp : ∀ p ∈ t.ps, Wp p
  big : t.ps.length ≤ big ∧ t.q.length ≤ big ∧ t.ts.length ≤ big
  fit : Small t
structure RdTab (H : Heap) (q : Nat → Prop) (x y z : V) (t : Tab) : Prop where
  rp : Rd H x 21 (t.ps.map prRow)
  rq : Rd H y 1 (t.q.map intRow)
  rs : Rd H z 2 (t.ts.map tmRow)
  lx : ∀ l, loc x = some l → q l
  ly : ∀ l, loc y = some l → q l
  lz : ∀ l, loc z = some l → q l
theorem RdTab.frame {H H' : Heap} {q r : Nat → Prop} {x y z : V} {t : Tab} (h : RdTab H q x y z t) (f : Frame H H' r) (hr : ∀ l, q l → ¬ r l) : RdTab H' q x y z t :=
  ⟨h.rp.frame f fun l hl => hr l (h.lx l hl), h.rq.frame f fun l hl => hr l (h.ly l hl), h.rs.frame f fun l hl => hr l (h.lz l hl), h.lx, h.ly, h.lz⟩
theorem RdTab.same {H H' : Heap} {q : Nat → Prop} {x y z : V} {t : Tab} (h : RdTab H q x y z t) (hb : H'.blk = H.blk) (hn : H'.next = H.next) : RdTab H' q x y z t :=
  ⟨h.rp.same hb hn, h.rq.same hb hn, h.rs.same hb hn, h.lx, h.ly, h.lz⟩
theorem RdTab.in_ {H K : Heap} {q : Nat → Prop} {x y z : V} {t : Tab} (h : RdTab H q x y z t) (hn : K.next = H.next) (hb : ∀ l, l < H.next → K.blk l = H.blk l) : RdTab K q x y z t :=
  ⟨h.rp.in_ hn hb, h.rq.in_ hn hb, h.rs.in_ hn hb, h.lx, h.ly, h.lz⟩
theorem RdTab.imp {H : Heap} {q q' : Nat → Prop} {x y z : V} {t : Tab} (h : RdTab H q x y z t) (hq : ∀ l, l < H.next → q l → q' l) : RdTab H q' x y z t :=
  ⟨h.rp, h.rq, h.rs, fun l hl => hq l (h.rp.lt hl) (h.lx l hl), fun l hl => hq l (h.rq.lt hl) (h.ly l hl), fun l hl => hq l (h.rs.lt hl) (h.lz l hl)⟩
theorem IsTab.rd {H : Heap} {q : Nat → Prop} {x y z : V} {t : Tab} (h : IsTab x y z t) : RdTab H q x y z t :=
  ⟨.sls h.p, .sls h.q, .sls h.s, fun l hl => (loc_sls h.p hl).elim, fun l hl => (loc_sls h.q hl).elim, fun l hl => (loc_sls h.s hl).elim⟩
theorem RdTab.thaw {H : Heap} {q : Nat → Prop} {x y z : V} {t : Tab} (h : RdTab H q x y z t) (hb : TB t) : ∃ x' y' z', thawV true H (.agg [x, y, z]) = some (.agg [x', y', z']) ∧ IsTab x' y' z' t := by
  obtain ⟨a, ha, _, sa⟩ := h.rp.thaw (flat_pr _)
  obtain ⟨b, hb', _, sb⟩ := h.rq.thaw (flat_ir _)
  obtain ⟨c, hc, _, sc⟩ := h.rs.thaw (flat_tm _)
  exact ⟨a, b, c, by simp [thawV, ha, hb', hc], sa, sb, sc, hb.wp, hb.big⟩
theorem RdTab.cells {H : Heap} {q : Nat → Prop} {x y z : V} {t : Tab} (h : RdTab H q x y z t) : x.cells? = some [x] ∧ y.cells? = some [y] ∧ z.cells? = some [z] := ⟨h.rp.cells, h.rq.cells, h.rs.cells⟩

/-! ### Copies -/
theorem New.seen {H : Heap} {n : Nat} {x : V} {sz : Nat} {rows : List (List V)} {f : FuncId} (hk : (cfg G).kind f = .own) (hx : Rd H x sz rows) (hf : flatRows rows = true)
    (h : ∀ y, Sls y sz rows → Run (callV (cfg G) (sem (cfg G) n) f [y]) H (New H sz rows)) : Run (callV (cfg G) (sem (cfg G) n) f [x]) H (New H sz rows) := by
  obtain ⟨y, _, e, s⟩ := hx.thaw hf
  exact Run.callOwn hk (bs := [y]) (by simp [e]) (by simp [s.closedV]) (h y s)
theorem clone76 (n : Nat) {x : V} {rows : List (List V)} (hx : Sls x 1 rows) (hf : flatRows rows = true) (hr : rows.length * 1 ≤ room) {H : Heap} (hH : H.floor ≤ H.next) :
    Run (callV (cfg G) (sem (cfg G) (n + 1)) 76 [x]) H (New H 1 rows) := by
  refine callV_own rfl (mapM_closedV (by simp [hx.closedV]) H) ?_
  rw [slices_Clone_bool_bool_eq]
  simp only [slices_Clone_bool_bool]
  rcases hx with rfl | ⟨rfl, rfl | rfl⟩
  · (repeat' (first | (simp only [wp, extractV, exists_eq_left', if_true, if_false, ite_true, ite_false, reduceIte, Nat.reduceAdd, Nat.reduceLT, Nat.reduceLeDiff, Nat.reduceEqDiff, eq_slimm, Run.slice0]) | (with_reducible refine Run.gC ?_ ?_ <;> intro hb <;> try simp only [hb]) | (with_reducible refine Run.gG ?_ ?_ <;> intro hb <;> try simp only [hb]) | (with_reducible refine Run.gQ ?_ ?_ <;> intro hb <;> try simp only [hb])))
    refine (Run.app (bytes := 1) (Nat.le_refl _) (Own.emp _ _) (Sls.items (Sls.imm _ _) _) (by simpa using hr)).mono fun x' H' ⟨o, _, _⟩ => ?_
    (repeat' (first | (simp only [wp, extractV, exists_eq_left', if_true, if_false, ite_true, ite_false, reduceIte, Nat.reduceAdd, Nat.reduceLT, Nat.reduceLeDiff, Nat.reduceEqDiff]) | (with_reducible refine Run.gC ?_ ?_ <;> intro hb <;> try simp only [hb]) | (with_reducible refine Run.gG ?_ ?_ <;> intro hb <;> try simp only [hb]) | (with_reducible refine Run.gQ ?_ ?_ <;> intro hb <;> try simp only [hb])))
    exact o.hand hf hH
  · (repeat' (first | (simp only [wp, extractV, exists_eq_left', if_true, if_false, ite_true, ite_false, reduceIte, Nat.reduceAdd, Nat.reduceLT, Nat.reduceLeDiff, Nat.reduceEqDiff, eq_slnil]) | (with_reducible refine Run.gC ?_ ?_ <;> intro hb <;> try simp only [hb]) | (with_reducible refine Run.gG ?_ ?_ <;> intro hb <;> try simp only [hb]) | (with_reducible refine Run.gQ ?_ ?_ <;> intro hb <;> try simp only [hb])))
    exact (Own.nils _ _).hand hf hH
  · (repeat' (first | (simp only [wp, extractV, exists_eq_left', if_true, if_false, ite_true, ite_false, reduceIte, Nat.reduceAdd, Nat.reduceLT, Nat.reduceLeDiff, Nat.reduceEqDiff, eq_slemp, Run.slice0]) | (with_reducible refine Run.gC ?_ ?_ <;> intro hb <;> try simp only [hb]) | (with_reducible refine Run.gG ?_ ?_ <;> intro hb <;> try simp only [hb]) | (with_reducible refine Run.gQ ?_ ?_ <;> intro hb <;> try simp only [hb])))
    refine (Run.app (bytes := 1) (Nat.le_refl _) (Own.emp _ _) (Sls.items (Sls.emp _) _) (by simp)).mono fun x' H' ⟨o, _, _⟩ => ?_
    (repeat' (first | (simp only [wp, extractV, exists_eq_left', if_true, if_false, ite_true, ite_false, reduceIte, Nat.reduceAdd, Nat.reduceLT, Nat.reduceLeDiff, Nat.reduceEqDiff]) | (with_reducible refine Run.gC ?_ ?_ <;> intro hb <;> try simp only [hb]) | (with_reducible refine Run.gG ?_ ?_ <;> intro hb <;> try simp only [hb]) | (with_reducible refine Run.gQ ?_ ?_ <;> intro hb <;> try simp only [hb])))
    exact o.hand hf hH
theorem clone77 (n : Nat) {x : V} {rows : List (List V)} (hx : Sls x 66 rows) (hf : flatRows rows = true) (hr : rows.length * 80 ≤ room) {H : Heap} (hH : H.floor ≤ H.next) :
    Run (callV (cfg G) (sem (cfg G) (n + 1)) 77 [x]) H (New H 66 rows) := by
  refine callV_own rfl (mapM_closedV (by simp [hx.closedV]) H) ?_
  rw [slices_Clone_ferry_api_Page_ferry_api_Page_eq]
  simp only [slices_Clone_ferry_api_Page_ferry_api_Page]
  rcases hx with rfl | ⟨rfl, rfl | rfl⟩
  · (repeat' (first | (simp only [wp, extractV, exists_eq_left', if_true, if_false, ite_true, ite_false, reduceIte, Nat.reduceAdd, Nat.reduceLT, Nat.reduceLeDiff, Nat.reduceEqDiff, eq_slimm, Run.slice0]) | (with_reducible refine Run.gC ?_ ?_ <;> intro hb <;> try simp only [hb]) | (with_reducible refine Run.gG ?_ ?_ <;> intro hb <;> try simp only [hb]) | (with_reducible refine Run.gQ ?_ ?_ <;> intro hb <;> try simp only [hb])))
    refine (Run.app (bytes := 80) (Nat.le_refl _) (Own.emp _ _) (Sls.items (Sls.imm _ _) _) (by simpa using hr)).mono fun x' H' ⟨o, _, _⟩ => ?_
    (repeat' (first | (simp only [wp, extractV, exists_eq_left', if_true, if_false, ite_true, ite_false, reduceIte, Nat.reduceAdd, Nat.reduceLT, Nat.reduceLeDiff, Nat.reduceEqDiff]) | (with_reducible refine Run.gC ?_ ?_ <;> intro hb <;> try simp only [hb]) | (with_reducible refine Run.gG ?_ ?_ <;> intro hb <;> try simp only [hb]) | (with_reducible refine Run.gQ ?_ ?_ <;> intro hb <;> try simp only [hb])))
    exact o.hand hf hH
  · (repeat' (first | (simp only [wp, extractV, exists_eq_left', if_true, if_false, ite_true, ite_false, reduceIte, Nat.reduceAdd, Nat.reduceLT, Nat.reduceLeDiff, Nat.reduceEqDiff, eq_slnil]) | (with_reducible refine Run.gC ?_ ?_ <;> intro hb <;> try simp only [hb]) | (with_reducible refine Run.gG ?_ ?_ <;> intro hb <;> try simp only [hb]) | (with_reducible refine Run.gQ ?_ ?_ <;> intro hb <;> try simp only [hb])))
    exact (Own.nils _ _).hand hf hH
  · (repeat' (first | (simp only [wp, extractV, exists_eq_left', if_true, if_false, ite_true, ite_false, reduceIte, Nat.reduceAdd, Nat.reduceLT, Nat.reduceLeDiff, Nat.reduceEqDiff, eq_slemp, Run.slice0]) | (with_reducible refine Run.gC ?_ ?_ <;> intro hb <;> try simp only [hb]) | (with_reducible refine Run.gG ?_ ?_ <;> intro hb <;> try simp only [hb]) | (with_reducible refine Run.gQ ?_ ?_ <;> intro hb <;> try simp only [hb])))
    refine (Run.app (bytes := 80) (Nat.le_refl _) (Own.emp _ _) (Sls.items (Sls.emp _) _) (by simp)).mono fun x' H' ⟨o, _, _⟩ => ?_
    (repeat' (first | (simp only [wp, extractV, exists_eq_left', if_true, if_false, ite_true, ite_false, reduceIte, Nat.reduceAdd, Nat.reduceLT, Nat.reduceLeDiff, Nat.reduceEqDiff]) | (with_reducible refine Run.gC ?_ ?_ <;> intro hb <;> try simp only [hb]) | (with_reducible refine Run.gG ?_ ?_ <;> intro hb <;> try simp only [hb]) | (with_reducible refine Run.gQ ?_ ?_ <;> intro hb <;> try simp only [hb])))
    exact o.hand hf hH
theorem clone79 (n : Nat) {x : V} {rows : List (List V)} (hx : Sls x 1 rows) (hf : flatRows rows = true) (hr : rows.length * 16 ≤ room) {H : Heap} (hH : H.floor ≤ H.next) :
    Run (callV (cfg G) (sem (cfg G) (n + 1)) 79 [x]) H (New H 1 rows) := by
  refine callV_own rfl (mapM_closedV (by simp [hx.closedV]) H) ?_
  rw [slices_Clone_string_string_eq]
  simp only [slices_Clone_string_string]
  rcases hx with rfl | ⟨rfl, rfl | rfl⟩
  · (repeat' (first | (simp only [wp, extractV, exists_eq_left', if_true, if_false, ite_true, ite_false, reduceIte, Nat.reduceAdd, Nat.reduceLT, Nat.reduceLeDiff, Nat.reduceEqDiff, eq_slimm, Run.slice0]) | (with_reducible refine Run.gC ?_ ?_ <;> intro hb <;> try simp only [hb]) | (with_reducible refine Run.gG ?_ ?_ <;> intro hb <;> try simp only [hb]) | (with_reducible refine Run.gQ ?_ ?_ <;> intro hb <;> try simp only [hb])))
    refine (Run.app (bytes := 16) (Nat.le_refl _) (Own.emp _ _) (Sls.items (Sls.imm _ _) _) (by simpa using hr)).mono fun x' H' ⟨o, _, _⟩ => ?_
    (repeat' (first | (simp only [wp, extractV, exists_eq_left', if_true, if_false, ite_true, ite_false, reduceIte, Nat.reduceAdd, Nat.reduceLT, Nat.reduceLeDiff, Nat.reduceEqDiff]) | (with_reducible refine Run.gC ?_ ?_ <;> intro hb <;> try simp only [hb]) | (with_reducible refine Run.gG ?_ ?_ <;> intro hb <;> try simp only [hb]) | (with_reducible refine Run.gQ ?_ ?_ <;> intro hb <;> try simp only [hb])))
    exact o.hand hf hH
  · (repeat' (first | (simp only [wp, extractV, exists_eq_left', if_true, if_false, ite_true, ite_false, reduceIte, Nat.reduceAdd, Nat.reduceLT, Nat.reduceLeDiff, Nat.reduceEqDiff, eq_slnil]) | (with_reducible refine Run.gC ?_ ?_ <;> intro hb <;> try simp only [hb]) | (with_reducible refine Run.gG ?_ ?_ <;> intro hb <;> try simp only [hb]) | (with_reducible refine Run.gQ ?_ ?_ <;> intro hb <;> try simp only [hb])))
    exact (Own.nils _ _).hand hf hH
  · (repeat' (first | (simp only [wp, extractV, exists_eq_left', if_true, if_false, ite_true, ite_false, reduceIte, Nat.reduceAdd, Nat.reduceLT, Nat.reduceLeDiff, Nat.reduceEqDiff, eq_slemp, Run.slice0]) | (with_reducible refine Run.gC ?_ ?_ <;> intro hb <;> try simp only [hb]) | (with_reducible refine Run.gG ?_ ?_ <;> intro hb <;> try simp only [hb]) | (with_reducible refine Run.gQ ?_ ?_ <;> intro hb <;> try simp only [hb])))
    refine (Run.app (bytes := 16) (Nat.le_refl _) (Own.emp _ _) (Sls.items (Sls.emp _) _) (by simp)).mono fun x' H' ⟨o, _, _⟩ => ?_
    (repeat' (first | (simp only [wp, extractV, exists_eq_left', if_true, if_false, ite_true, ite_false, reduceIte, Nat.reduceAdd, Nat.reduceLT, Nat.reduceLeDiff, Nat.reduceEqDiff]) | (with_reducible refine Run.gC ?_ ?_ <;> intro hb <;> try simp only [hb]) | (with_reducible refine Run.gG ?_ ?_ <;> intro hb <;> try simp only [hb]) | (with_reducible refine Run.gQ ?_ ?_ <;> intro hb <;> try simp only [hb])))
    exact o.hand hf hH
theorem eq_slref {c : Bool} {l sz s n k : Nat} {ex : Bool} : eqV .slice c (.ref l sz s n k ex) .nils = some false := rfl
/-- Ports: lists in them. -/
theorem clone78 (n : Nat) {H : Heap} {x : V} {rows : List (List V)} (hx : Rd H x 2 rows) (hr : rows.length * 32 ≤ room) (hH : H.floor ≤ H.next) :
    Run (callV (cfg G) (sem (cfg G) (n + 1)) 78 [x]) H (New H 2 rows) := by
  rw [callV_inl rfl, slices_Clone_ferry_api_Port_ferry_api_Port_eq]
  simp only [slices_Clone_ferry_api_Port_ferry_api_Port]
  have hx0 := hx
  rcases hx with (rfl | ⟨rfl, rfl | rfl⟩) | ⟨l, s, m, c, ex, b, rfl, h1, h2, h3, rfl⟩
  · (repeat' (first | (simp only [wp, extractV, exists_eq_left', if_true, if_false, ite_true, ite_false, reduceIte, Nat.reduceAdd, Nat.reduceLT, Nat.reduceLeDiff, Nat.reduceEqDiff, eq_slimm, Run.slice0]) | (with_reducible refine Run.gC ?_ ?_ <;> intro hb <;> try simp only [hb]) | (with_reducible refine Run.gG ?_ ?_ <;> intro hb <;> try simp only [hb]) | (with_reducible refine Run.gQ ?_ ?_ <;> intro hb <;> try simp only [hb])))
    refine (Run.appX hH hx0 hr).mono fun y H' h => ?_
    (repeat' (first | (simp only [wp, extractV, exists_eq_left', if_true, if_false, ite_true, ite_false, reduceIte, Nat.reduceAdd, Nat.reduceLT, Nat.reduceLeDiff, Nat.reduceEqDiff]) | (with_reducible refine Run.gC ?_ ?_ <;> intro hb <;> try simp only [hb]) | (with_reducible refine Run.gG ?_ ?_ <;> intro hb <;> try simp only [hb]) | (with_reducible refine Run.gQ ?_ ?_ <;> intro hb <;> try simp only [hb])))
    exact h
  · (repeat' (first | (simp only [wp, extractV, exists_eq_left', if_true, if_false, ite_true, ite_false, reduceIte, Nat.reduceAdd, Nat.reduceLT, Nat.reduceLeDiff, Nat.reduceEqDiff, eq_slnil]) | (with_reducible refine Run.gC ?_ ?_ <;> intro hb <;> try simp only [hb]) | (with_reducible refine Run.gG ?_ ?_ <;> intro hb <;> try simp only [hb]) | (with_reducible refine Run.gQ ?_ ?_ <;> intro hb <;> try simp only [hb])))
    exact ⟨Own.nils _ _, Frame.refl _ _, fun l hl => by cases hl⟩
  · (repeat' (first | (simp only [wp, extractV, exists_eq_left', if_true, if_false, ite_true, ite_false, reduceIte, Nat.reduceAdd, Nat.reduceLT, Nat.reduceLeDiff, Nat.reduceEqDiff, eq_slemp, Run.slice0]) | (with_reducible refine Run.gC ?_ ?_ <;> intro hb <;> try simp only [hb]) | (with_reducible refine Run.gG ?_ ?_ <;> intro hb <;> try simp only [hb]) | (with_reducible refine Run.gQ ?_ ?_ <;> intro hb <;> try simp only [hb])))
    refine (Run.appX hH hx0 hr).mono fun y H' h => ?_
    (repeat' (first | (simp only [wp, extractV, exists_eq_left', if_true, if_false, ite_true, ite_false, reduceIte, Nat.reduceAdd, Nat.reduceLT, Nat.reduceLeDiff, Nat.reduceEqDiff]) | (with_reducible refine Run.gC ?_ ?_ <;> intro hb <;> try simp only [hb]) | (with_reducible refine Run.gG ?_ ?_ <;> intro hb <;> try simp only [hb]) | (with_reducible refine Run.gQ ?_ ?_ <;> intro hb <;> try simp only [hb])))
    exact h
  · (repeat' (first | (simp only [wp, extractV, exists_eq_left', if_true, if_false, ite_true, ite_false, reduceIte, Nat.reduceAdd, Nat.reduceLT, Nat.reduceLeDiff, Nat.reduceEqDiff, eq_slref, Run.slice0]) | (with_reducible refine Run.gC ?_ ?_ <;> intro hb <;> try simp only [hb]) | (with_reducible refine Run.gG ?_ ?_ <;> intro hb <;> try simp only [hb]) | (with_reducible refine Run.gQ ?_ ?_ <;> intro hb <;> try simp only [hb])))
    refine (Run.appX hH hx0 hr).mono fun y H' h => ?_
    (repeat' (first | (simp only [wp, extractV, exists_eq_left', if_true, if_false, ite_true, ite_false, reduceIte, Nat.reduceAdd, Nat.reduceLT, Nat.reduceLeDiff, Nat.reduceEqDiff]) | (with_reducible refine Run.gC ?_ ?_ <;> intro hb <;> try simp only [hb]) | (with_reducible refine Run.gG ?_ ?_ <;> intro hb <;> try simp only [hb]) | (with_reducible refine Run.gQ ?_ ?_ <;> intro hb <;> try simp only [hb])))
    exact h
end Go.Fv.Tr
