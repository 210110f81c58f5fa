/-
  The lines of a part: the document's. By an AI agent; no person has read it.
-/
import Derived.Test.YtoogammidjhfgaaDoorFvSvD
set_option linter.unusedVariables false
set_option linter.unusedSimpArgs false
set_option linter.unusedSectionVars false
/-! The lines of a part: the document's. -/
namespace Go.Fv.Tr
open Go Go.Fv Go.Proofs
set_option linter.unusedSimpArgs false
set_option linter.unusedVariables false
variable {G : Nat → Option (List V)}

def nlc : List UInt8 := [10]
theorem nl_len : nlc.length = 1 := rfl
theorem nl_bs : (⟨#[10]⟩ : ByteArray) = bs nlc := rfl
/-- Lines as a text. -/
def docL (ls : List (List UInt8)) : List UInt8 := ls.flatMap (· ++ nlc)
theorem docL_app (a b : List (List UInt8)) : docL (a ++ b) = docL a ++ docL b := List.flatMap_append
theorem docL_one (w : List UInt8) : docL [w] = w ++ nlc := by simp [docL]
theorem docL_nil : docL [] = [] := rfl
theorem docL_take {α : Type} {l : List α} {f : α → List UInt8} {k : Nat} (h : k < l.length) : (docL ((l.take k).map f)).length + (f l[k]).length + 1 ≤ (docL (l.map f)).length := by
  have e : l.map f = (l.take k).map f ++ ([f l[k]] ++ (l.drop (k + 1)).map f) := by
    have h0 : l = l.take k ++ l[k] :: l.drop (k + 1) := by rw [← List.drop_eq_getElem_cons h, List.take_append_drop]
    conv => lhs; rw [h0]
    rw [List.map_append, List.map_cons]
    rfl
  rw [e, docL_app, docL_app, docL_one]
  simp only [List.length_append, nl_len]
  omega
theorem add_bs {x y : List UInt8} (h : x.length + y.length ≤ room) : arithV .add (.str (bs x)) (.str (bs y)) = some (.str (bs (x ++ y))) := str_add (by unfold room at h; omega)

/-- Bytes that are being gathered; the box of the part. -/
structure Bc (H0 : Heap) (x0 : V) (b0 : Blk) (y : V) (acc : List UInt8) (H : Heap) : Prop where
  fl : H.floor = 0
  nx : H0.next + 1 ≤ H.next
  b : H.blk H0.next = some b0
  o : Own H y 1 (byR acc)
  ge : ∀ m, loc y = some m → loc x0 = some m ∨ H0.next + 1 ≤ m
  fr : Frame H0 H (fun m => loc x0 = some m)
theorem Bc.keep {H0 : Heap} {x0 : V} {b0 : Blk} {y : V} {acc : List UInt8} {H H' : Heap} (h : Bc H0 x0 b0 y acc H) (f : Frame H H' (fun _ => False)) : Bc H0 x0 b0 y acc H' :=
  ⟨f.floor.trans h.fl, Nat.le_trans h.nx f.next, (f.old _ (by have := h.nx; omega) id).trans h.b, h.o.frame f fun _ _ => id, h.ge, h.fr.trans f (fun _ _ h => h) (fun _ _ h => h.elim)⟩
theorem Bc.grown {H0 : Heap} {x0 : V} {b0 : Blk} {y y' : V} {acc w : List UInt8} {H H' : Heap} (h : Bc H0 x0 b0 y acc H) (hx : ∀ m, loc x0 = some m → m < H0.next) (o : Own H' y' 1 (byR acc ++ byR w)) (f : Frame H H' (fun l => loc y = some l)) (hl : ∀ l, loc y' = some l → loc y = some l ∨ H.next ≤ l) : Bc H0 x0 b0 y' (acc ++ w) H' := by
  have n1 := f.next
  have n2 := h.nx
  refine ⟨f.floor.trans h.fl, by omega, ?_, by rw [byR_append]; exact o, fun m e => ?_, ⟨by have := h.fr.next; omega, f.floor.trans h.fr.floor, fun m hm hq => ?_⟩⟩
  · rw [f.old _ (by omega) (fun e => ?_)]
    · exact h.b
    · rcases h.ge _ e with e1 | e1
      · have := hx _ e1; omega
      · omega
  · rcases hl m e with e1 | e1
    · exact h.ge m e1
    · exact .inr (by omega)
  · rw [f.old m (by have := h.fr.next; omega) (fun e => ?_)]
    · exact h.fr.old m hm hq
    · rcases h.ge _ e with e1 | e1
      · exact hq e1
      · omega
theorem items_str (H : Heap) (w : List UInt8) : itemsV 1 (.str (bs w)) H = some (byR w) := by
  rw [← byR_rows]; rfl
theorem Bc.app {H0 : Heap} {x0 : V} {b0 : Blk} {y : V} {acc w : List UInt8} {H : Heap} {Q : V → Heap → Prop} (h : Bc H0 x0 b0 y acc H) (hx : ∀ m, loc x0 = some m → m < H0.next) (hN : acc.length + w.length ≤ room) (q : ∀ y' H', Bc H0 x0 b0 y' (acc ++ w) H' → Q y' H') :
    Run (appV 1 1 y (.str (bs w))) H Q :=
  (Run.app (bytes := 1) (items := byR w) (by rw [h.fl]; exact Nat.zero_le _) h.o (items_str _ _) (by rw [byR_len, byR_len]; omega)).mono fun y' H' ⟨o, f, l⟩ => q y' H' (h.grown hx o f l)
theorem Bc.tapp {H0 : Heap} {x0 : V} {b0 : Blk} {y : V} {acc w : List UInt8} {H : Heap} {v : Nat → Bool} {Q : V → Heap → Prop} (h : Bc H0 x0 b0 y acc H) (hx : ∀ m, loc x0 = some m → m < H0.next) (hv : ∀ l, l < H.next → v l = true) (hN : acc.length + w.length ≤ room) (q : ∀ y' H', Bc H0 x0 b0 y' (acc ++ w) H' → Q y' H') :
    Run (trun v (appV 1 1 y (.str (bs w)))) H Q :=
  (Run.tapp (bytes := 1) (items := byR w) (by rw [h.fl]; exact Nat.zero_le _) h.o (fun m e => hv m (h.o.lt e)) (items_str _ _) (by rw [byR_len, byR_len]; omega)).mono fun y' H' ⟨o, f, l⟩ => q y' H' (h.grown hx o f l)

/-! ### Sums of strings -/
theorem sum2 {w a t : List UInt8} (h : w.length + a.length + t.length ≤ room) : arithV .add (.str (bs w)) (.str (bs a)) = some (.str (bs (w ++ a))) ∧ arithV .add (.str (bs (w ++ a))) (.str (bs t)) = some (.str (bs (w ++ a ++ t))) :=
  ⟨add_bs (by omega), add_bs (by rw [List.length_append]; omega)⟩
theorem sum4 {w a s b t : List UInt8} (h : w.length + a.length + s.length + b.length + t.length ≤ room) :
    arithV .add (.str (bs w)) (.str (bs a)) = some (.str (bs (w ++ a))) ∧ arithV .add (.str (bs (w ++ a))) (.str (bs s)) = some (.str (bs (w ++ a ++ s))) ∧
    arithV .add (.str (bs (w ++ a ++ s))) (.str (bs b)) = some (.str (bs (w ++ a ++ s ++ b))) ∧ arithV .add (.str (bs (w ++ a ++ s ++ b))) (.str (bs t)) = some (.str (bs (w ++ a ++ s ++ b ++ t))) :=
  ⟨add_bs (by omega), add_bs (by simp only [List.length_append]; omega), add_bs (by simp only [List.length_append]; omega), add_bs (by simp only [List.length_append]; omega)⟩
theorem sum6 {w a s b r c t : List UInt8} (h : w.length + a.length + s.length + b.length + r.length + c.length + t.length ≤ room) :
    arithV .add (.str (bs w)) (.str (bs a)) = some (.str (bs (w ++ a))) ∧ arithV .add (.str (bs (w ++ a))) (.str (bs s)) = some (.str (bs (w ++ a ++ s))) ∧
    arithV .add (.str (bs (w ++ a ++ s))) (.str (bs b)) = some (.str (bs (w ++ a ++ s ++ b))) ∧ arithV .add (.str (bs (w ++ a ++ s ++ b))) (.str (bs r)) = some (.str (bs (w ++ a ++ s ++ b ++ r))) ∧
    arithV .add (.str (bs (w ++ a ++ s ++ b ++ r))) (.str (bs c)) = some (.str (bs (w ++ a ++ s ++ b ++ r ++ c))) ∧ arithV .add (.str (bs (w ++ a ++ s ++ b ++ r ++ c))) (.str (bs t)) = some (.str (bs (w ++ a ++ s ++ b ++ r ++ c ++ t))) :=
  ⟨add_bs (by omega), add_bs (by simp only [List.length_append]; omega), add_bs (by simp only [List.length_append]; omega), add_bs (by simp only [List.length_append]; omega), add_bs (by simp only [List.length_append]; omega), add_bs (by simp only [List.length_append]; omega)⟩

def sPart : List UInt8 := [112, 97, 114, 116, 32]
def sPage : List UInt8 := [112, 97, 103, 101, 32]
def sProc : List UInt8 := [112, 114, 111, 99, 32]
def sSi : List UInt8 := [112, 111, 114, 116, 32, 115, 97, 109, 112, 108, 101, 105, 110, 32]
def sSo : List UInt8 := [112, 111, 114, 116, 32, 115, 97, 109, 112, 108, 101, 111, 117, 116, 32]
def sQi : List UInt8 := [112, 111, 114, 116, 32, 113, 117, 101, 117, 101, 105, 110, 32]
def sQo : List UInt8 := [112, 111, 114, 116, 32, 113, 117, 101, 117, 101, 111, 117, 116, 32]
def sEv : List UInt8 := [101, 118, 101, 110, 116, 115, 32]
def sSem : List UInt8 := [115, 101, 109, 32]
theorem s_lens : sPart.length = 5 ∧ sPage.length = 5 ∧ sProc.length = 5 ∧ sSi.length = 14 ∧ sSo.length = 15 ∧ sQi.length = 13 ∧ sQo.length = 14 ∧ sEv.length = 7 ∧ sSem.length = 4 := ⟨rfl, rfl, rfl, rfl, rfl, rfl, rfl, rfl, rfl⟩
theorem line_part (p : Pl) (home : Int) : lineL (partW p home) ++ nlc = sPart ++ Go.Lib.itoa home ++ spc ++ (if p.mob then wMob else wFix) ++ nlc := by simp [lineL, partW, Go.Lib.join_cons, Go.Lib.joinTail, spc, sPart, wPart]
theorem line_page (g : Pg) : lineL (pageW g) ++ nlc = sPage ++ rightsL g.r ++ spc ++ dataL g.s.data.toList ++ nlc := by simp [lineL, pageW, Go.Lib.join_cons, Go.Lib.joinTail, spc, sPage, wPage]
theorem line_proc (c : Pc) : lineL (procW c) ++ nlc = sProc ++ Go.Lib.itoa c.e ++ spc ++ Go.Lib.itoa c.p ++ spc ++ (if c.a then wAuto else wIdle) ++ nlc := by simp [lineL, procW, Go.Lib.join_cons, Go.Lib.joinTail, spc, sProc, wProc]
theorem line_ev (m : Int) : lineL (evW m) ++ nlc = sEv ++ Go.Lib.itoa m ++ nlc := by simp [lineL, evW, Go.Lib.join_cons, Go.Lib.joinTail, sEv, wEv]
theorem line_sem (m : Int) : lineL (semW m) ++ nlc = sSem ++ Go.Lib.itoa m ++ nlc := by simp [lineL, semW, Go.Lib.join_cons, Go.Lib.joinTail, sSem, wSem]
theorem line_si {q : Pt} (h : q.k = 1) : lineL (portW q) ++ nlc = sSi ++ Go.Lib.itoa q.z ++ spc ++ Go.Lib.itoa q.f ++ nlc := by simp [lineL, portW, h, Go.Lib.join_cons, Go.Lib.joinTail, spc, sSi, wPort, wSi]
theorem line_so {q : Pt} (h : q.k = 2) : lineL (portW q) ++ nlc = sSo ++ Go.Lib.itoa q.z ++ nlc := by simp [lineL, portW, h, Go.Lib.join_cons, Go.Lib.joinTail, spc, sSo, wPort, wSo]
theorem line_qi {q : Pt} (h : q.k = 3) : lineL (portW q) ++ nlc = sQi ++ Go.Lib.itoa q.z ++ spc ++ Go.Lib.itoa q.d ++ nlc := by simp [lineL, portW, h, Go.Lib.join_cons, Go.Lib.joinTail, spc, sQi, wPort, wQi]
theorem line_qo {q : Pt} (h1 : q.k ≠ 1) (h2 : q.k ≠ 2) (h3 : q.k ≠ 3) : lineL (portW q) ++ nlc = sQo ++ Go.Lib.itoa q.z ++ spc ++ Go.Lib.itoa q.d ++ nlc := by simp [lineL, portW, h1, h2, h3, Go.Lib.join_cons, Go.Lib.joinTail, spc, sQo, wPort, wQo]

set_option maxRecDepth 20000 in
theorem part_run (n : Nat) {row : List V} {p : Pl} {home : Int} (hp : PlS row p) (hN : PlN p) (hh : inR home) {H0 : Heap} {x0 : V} {acc : List UInt8} (ho : Own H0 x0 1 (byR acc)) (hf : H0.floor = 0) (hB : acc.length + (docL (partL p home)).length ≤ room) :
    Run (callV (cfg G) (sem (cfg G) (n + 3)) 89 [x0, .agg row, .int .i64 home]) H0 fun y H' => Own H' y 1 (byR (acc ++ docL (partL p home))) ∧ Frame H0 H' (fun m => loc x0 = some m) ∧ ∀ m, loc y = some m → loc x0 = some m ∨ H0.next ≤ m := by
  obtain ⟨a, b, c, d, rfl, ha, hb, hc, hd⟩ := hp
  have hx : ∀ m, loc x0 = some m → m < H0.next := fun m e => ho.lt e
  rw [callV_inl rfl, ferry_ferryref25_part_eq]
  simp only [ferry_ferryref25_part]
  have hr : room = 140737488355328 := rfl
  have l1 := hN.l1
  have l2 := hN.l2
  have l3 := hN.l3
  have l4 := hN.l4
  have la := ha.len
  have lb := hb.len
  have lc := hc.len
  have ld := hd.len
  rw [List.length_map] at la lb lc ld
  obtain ⟨y1, y2, y3, y4, y5, y6, y7, y8, y9⟩ := s_lens
  have rm : (⟨#[109, 111, 98, 105, 108, 101]⟩ : ByteArray) = bs wMob := rfl
  have rf : (⟨#[102, 105, 120, 101, 100]⟩ : ByteArray) = bs wFix := rfl
  have rp : (⟨#[112, 97, 114, 116, 32]⟩ : ByteArray) = bs sPart := rfl
  have B0 : Bc H0 x0 ⟨7, [[iV p.id, .bool p.mob, a, b, c, iV p.ev, d]]⟩ x0 acc (H0.add ⟨7, [[iV p.id, .bool p.mob, a, b, c, iV p.ev, d]]⟩) :=
    ⟨hf, Nat.le_refl _, if_pos rfl, ho.frame (Frame.add _ (fun _ => False)) (fun _ _ => id), fun m e => .inl e, Frame.add _ _⟩
  -- the lengths of what is told
  generalize hF1 : (fun g : Pg => lineL (pageW g)) = F1
  generalize hF2 : (fun c : Pc => lineL (procW c)) = F2
  generalize hF3 : (fun q : Pt => lineL (portW q)) = F3
  generalize hF4 : (fun m : Int => lineL (semW m)) = F4
  have eP : partL p home = [lineL (partW p home)] ++ p.pgs.map F1 ++ p.prs.map F2 ++ p.pts.map F3 ++ (if p.ev = 0 then [] else [lineL (evW p.ev)]) ++ p.sems.map F4 := by rw [← hF1, ← hF2, ← hF3, ← hF4]; rfl
  have eD : (docL (partL p home)).length = (lineL (partW p home)).length + 1 + (docL (p.pgs.map F1)).length + (docL (p.prs.map F2)).length + (docL (p.pts.map F3)).length + (docL (if p.ev = 0 then [] else [lineL (evW p.ev)])).length + (docL (p.sems.map F4)).length := by
    rw [eP]; simp only [docL_app, docL_one, List.length_append, nl_len]
  have hl0 : (lineL (partW p home)).length + 1 = sPart.length + (Go.Lib.itoa home).length + spc.length + (if p.mob then wMob else wFix).length + 1 := by
    have := congrArg List.length (line_part p home)
    simpa [nl_len, Nat.add_assoc] using this
  have key : Run (ferry_ferryref25_part_j3 G (sem (cfg G) (n + 2)) x0 (.int .i64 home) (.ptr H0.next 0 0) .nils (.str (bs (if p.mob then wMob else wFix)))) (H0.add ⟨7, [[iV p.id, .bool p.mob, a, b, c, iV p.ev, d]]⟩) fun r H' =>
      Own H' (r.2.getD 0 .undef) 1 (byR (acc ++ docL (partL p home))) ∧ Frame H0 H' (fun m => loc x0 = some m) ∧ ∀ m, loc (r.2.getD 0 .undef) = some m → loc x0 = some m ∨ H0.next ≤ m := by
    simp only [ferry_ferryref25_part_j3]
    obtain ⟨c1, c2, c3, c4⟩ := sum4 (w := sPart) (a := Go.Lib.itoa home) (s := spc) (b := if p.mob then wMob else wFix) (t := nlc) (by rw [nl_len]; omega)
    have nh := number_spec (G := G) (n + 1) hh
    rw [itoaB_bs] at nh
    (repeat' (first | (simp only [wp, extractV, exists_eq_left', if_true, if_false, ite_true, ite_false, reduceIte, Nat.reduceAdd, Nat.reduceLT, Nat.reduceLeDiff, Nat.reduceEqDiff, rp, nh, c1, sp_bs, c2, c3, nl_bs, c4]) | (with_reducible refine Run.gC ?_ ?_ <;> intro hb <;> try simp only [hb]) | (with_reducible refine Run.gG ?_ ?_ <;> intro hb <;> try simp only [hb]) | (with_reducible refine Run.gQ ?_ ?_ <;> intro hb <;> try simp only [hb])))
    rw [← line_part]
    refine B0.app hx (by rw [List.length_append, nl_len]; omega) fun y H1 B1 => ?_
    (repeat' (first | (simp only [wp, extractV, exists_eq_left', if_true, if_false, ite_true, ite_false, reduceIte, Nat.reduceAdd, Nat.reduceLT, Nat.reduceLeDiff, Nat.reduceEqDiff, B1.b, la]) | (with_reducible refine Run.gC ?_ ?_ <;> intro hb <;> try simp only [hb]) | (with_reducible refine Run.gG ?_ ?_ <;> intro hb <;> try simp only [hb]) | (with_reducible refine Run.gQ ?_ ?_ <;> intro hb <;> try simp only [hb])))
    generalize eA1 : acc ++ (lineL (partW p home) ++ nlc) = A1 at B1
    have hA1 : A1.length = acc.length + (lineL (partW p home)).length + 1 := by rw [← eA1]; simp only [List.length_append, nl_len]; omega
    -- pages
    refine Run.loop (N := p.pgs.length) (fun k st H => ∃ y, st = [y, iV k] ∧ Bc H0 x0 ⟨7, [[iV p.id, .bool p.mob, a, b, c, iV p.ev, d]]⟩ y (A1 ++ docL ((p.pgs.take k).map F1)) H) ⟨_, rfl, by simpa [docL_nil] using B1⟩ ?_
    rintro k st H hk ⟨y, rfl, B⟩
    simp only [ferry_ferryref25_part_l1]
    by_cases hlt : k < p.pgs.length
    · have hix := ha.idx (k := .i64) (i := k) (by rw [List.length_map]; exact hlt)
      rw [map_get hlt] at hix
      obtain ⟨h0, h7⟩ := hN.r _ (List.getElem_mem hlt)
      have hs := hN.s _ (List.getElem_mem hlt)
      have eg : pgR p.pgs[k] = [iV p.pgs[k].r, .str (bs p.pgs[k].s.data.toList)] := by rw [bs_toList]; rfl
      rw [eg] at hix
      have hd2 := dataL_len p.pgs[k].s.data.toList
      have hr3 := rightsL_len p.pgs[k].r
      have hT := docL_take (f := F1) hlt
      have eF : F1 p.pgs[k] = lineL (pageW p.pgs[k]) := by rw [← hF1]
      have eL := congrArg List.length (line_page p.pgs[k])
      simp only [List.length_append, nl_len, spc_len, y2] at eL
      have rg : (⟨#[112, 97, 103, 101, 32]⟩ : ByteArray) = bs sPage := rfl
      obtain ⟨c1, c2, c3, c4⟩ := sum4 (w := sPage) (a := rightsL p.pgs[k].r) (s := spc) (b := dataL p.pgs[k].s.data.toList) (t := nlc) (by rw [nl_len, spc_len, y2]; omega)
      have fl := B.fl
      (repeat' (first | (simp only [wp, extractV, exists_eq_left', if_true, if_false, ite_true, ite_false, reduceIte, Nat.reduceAdd, Nat.reduceLT, Nat.reduceLeDiff, Nat.reduceEqDiff, nltT hlt, hix, fl, refRights_spec (n + 1) h0 h7, refData_spec n (l := p.pgs[k].s.data.toList) (by omega), rg, c1, sp_bs, c2, c3, nl_bs, c4]) | (with_reducible refine Run.gC ?_ ?_ <;> intro hb <;> try simp only [hb]) | (with_reducible refine Run.gG ?_ ?_ <;> intro hb <;> try simp only [hb]) | (with_reducible refine Run.gQ ?_ ?_ <;> intro hb <;> try simp only [hb])))
      rw [← line_page]
      have fH : Frame H ((((H.add ⟨2, [[.int .i64 0, .str ⟨#[]⟩]]⟩).set H.next ⟨2, [[iV p.pgs[k].r, .str (bs p.pgs[k].s.data.toList)]]⟩))) (fun _ => False) := (Frame.add _ _).st (Nat.le_refl _) _
      refine (B.keep ((fH.tr (Frame.q _ _)).tr (Frame.q _ _))).tapp hx (fun l hl => by simp [visB, Heap.add_next, Heap.set_next, Heap.q_next, Heap.empty_next] at hl ⊢; omega) (by rw [eF] at hT; simp only [List.length_append, nl_len]; omega) fun y' H4 B4 => ?_
      (repeat' (first | (simp only [wp, extractV, exists_eq_left', if_true, if_false, ite_true, ite_false, reduceIte, Nat.reduceAdd, Nat.reduceLT, Nat.reduceLeDiff, Nat.reduceEqDiff, nadd hlt (show p.pgs.length ≤ 9223372036854775807 by omega)]) | (with_reducible refine Run.gC ?_ ?_ <;> intro hb <;> try simp only [hb]) | (with_reducible refine Run.gG ?_ ?_ <;> intro hb <;> try simp only [hb]) | (with_reducible refine Run.gQ ?_ ?_ <;> intro hb <;> try simp only [hb])))
      refine ⟨hlt, y', rfl, ?_⟩
      rw [List.take_succ_eq_append_getElem hlt, List.map_append, docL_app, List.map_cons, List.map_nil, docL_one, eF, ← List.append_assoc]
      exact B4
    have hk0 : k = p.pgs.length := by omega
    subst hk0
    rw [List.take_length] at B
    (repeat' (first | (simp only [wp, extractV, exists_eq_left', if_true, if_false, ite_true, ite_false, reduceIte, Nat.reduceAdd, Nat.reduceLT, Nat.reduceLeDiff, Nat.reduceEqDiff, nltF hlt, B.b, lb]) | (with_reducible refine Run.gC ?_ ?_ <;> intro hb <;> try simp only [hb]) | (with_reducible refine Run.gG ?_ ?_ <;> intro hb <;> try simp only [hb]) | (with_reducible refine Run.gQ ?_ ?_ <;> intro hb <;> try simp only [hb])))
    generalize eA2 : A1 ++ docL (p.pgs.map F1) = A2 at B
    have hA2 : A2.length = A1.length + (docL (p.pgs.map F1)).length := by rw [← eA2, List.length_append]
    clear hlt
    -- processes
    refine Run.loop (N := p.prs.length) (fun k st H => ∃ w y, st = [w, y, iV k] ∧ Bc H0 x0 ⟨7, [[iV p.id, .bool p.mob, a, b, c, iV p.ev, d]]⟩ y (A2 ++ docL ((p.prs.take k).map F2)) H) ⟨_, _, rfl, by simpa [docL_nil] using B⟩ ?_
    rintro k st H hk ⟨w, y, rfl, B⟩
    simp only [ferry_ferryref25_part_l2]
    by_cases hlt : k < p.prs.length
    · have hix := hb.idx (k := .i64) (i := k) (by rw [List.length_map]; exact hlt)
      rw [map_get hlt] at hix
      obtain ⟨h0, h7⟩ := hN.e _ (List.getElem_mem hlt)
      have eg : pcR p.prs[k] = [iV p.prs[k].e, iV p.prs[k].p, .bool p.prs[k].a] := rfl
      rw [eg] at hix
      have i1 := itoa_le h0
      have i2 := itoa_le h7
      have hT := docL_take (f := F2) hlt
      have eF : F2 p.prs[k] = lineL (procW p.prs[k]) := by rw [← hF2]
      have eL := congrArg List.length (line_proc p.prs[k])
      simp only [List.length_append, nl_len, spc_len, y3] at eL
      have rg : (⟨#[112, 114, 111, 99, 32]⟩ : ByteArray) = bs sProc := rfl
      have ra : (⟨#[97, 117, 116, 111]⟩ : ByteArray) = bs wAuto := rfl
      have ri : (⟨#[105, 100, 108, 101]⟩ : ByteArray) = bs wIdle := rfl
      have n0 := number_spec (G := G) (n + 1) h0
      have n7 := number_spec (G := G) (n + 1) h7
      rw [itoaB_bs] at n0 n7
      have fl := B.fl
      have fH : Frame H ((H.add ⟨3, [[.int .i64 0, .int .i64 0, .bool false]]⟩).set H.next ⟨3, [[iV p.prs[k].e, iV p.prs[k].p, .bool p.prs[k].a]]⟩) (fun _ => False) := (Frame.add _ _).st (Nat.le_refl _) _
      cases hm : p.prs[k].a
      · have eW : (if p.prs[k].a then wAuto else wIdle) = wIdle := by rw [hm]; rfl
        have lp := line_proc p.prs[k]
        rw [eW] at lp eL
        have w4 : (wIdle).length = 4 := rfl
        obtain ⟨c1, c2, c3, c4, c5, c6⟩ := sum6 (w := sProc) (a := Go.Lib.itoa p.prs[k].e) (s := spc) (b := Go.Lib.itoa p.prs[k].p) (r := spc) (c := wIdle) (t := nlc) (by rw [nl_len, spc_len, y3, w4]; omega)
        rw [hm] at hix fH
        (repeat' (first | (simp only [wp, extractV, exists_eq_left', if_true, if_false, ite_true, ite_false, reduceIte, Nat.reduceAdd, Nat.reduceLT, Nat.reduceLeDiff, Nat.reduceEqDiff, nltT hlt, hix, fl, n0, n7, rg, ra, ri, c1, sp_bs, c2, c3, c4, c5, nl_bs, c6, ferry_ferryref25_part_j1]) | (with_reducible refine Run.gC ?_ ?_ <;> intro hb <;> try simp only [hb]) | (with_reducible refine Run.gG ?_ ?_ <;> intro hb <;> try simp only [hb]) | (with_reducible refine Run.gQ ?_ ?_ <;> intro hb <;> try simp only [hb])))
        rw [← lp]
        refine (B.keep ((fH.tr (Frame.q _ _)).tr (Frame.q _ _))).tapp hx (fun l hl => by simp [visB, Heap.add_next, Heap.set_next, Heap.q_next, Heap.empty_next] at hl ⊢; omega) (by rw [eF] at hT; simp only [List.length_append, nl_len]; omega) fun y' H4 B4 => ?_
        (repeat' (first | (simp only [wp, extractV, exists_eq_left', if_true, if_false, ite_true, ite_false, reduceIte, Nat.reduceAdd, Nat.reduceLT, Nat.reduceLeDiff, Nat.reduceEqDiff, nadd hlt (show p.prs.length ≤ 9223372036854775807 by omega)]) | (with_reducible refine Run.gC ?_ ?_ <;> intro hb <;> try simp only [hb]) | (with_reducible refine Run.gG ?_ ?_ <;> intro hb <;> try simp only [hb]) | (with_reducible refine Run.gQ ?_ ?_ <;> intro hb <;> try simp only [hb])))
        refine ⟨hlt, _, y', rfl, ?_⟩
        rw [List.take_succ_eq_append_getElem hlt, List.map_append, docL_app, List.map_cons, List.map_nil, docL_one, eF, ← List.append_assoc]
        exact B4
      · have eW : (if p.prs[k].a then wAuto else wIdle) = wAuto := by rw [hm]; rfl
        have lp := line_proc p.prs[k]
        rw [eW] at lp eL
        have w4 : (wAuto).length = 4 := rfl
        obtain ⟨c1, c2, c3, c4, c5, c6⟩ := sum6 (w := sProc) (a := Go.Lib.itoa p.prs[k].e) (s := spc) (b := Go.Lib.itoa p.prs[k].p) (r := spc) (c := wAuto) (t := nlc) (by rw [nl_len, spc_len, y3, w4]; omega)
        rw [hm] at hix fH
        (repeat' (first | (simp only [wp, extractV, exists_eq_left', if_true, if_false, ite_true, ite_false, reduceIte, Nat.reduceAdd, Nat.reduceLT, Nat.reduceLeDiff, Nat.reduceEqDiff, nltT hlt, hix, fl, n0, n7, rg, ra, ri, c1, sp_bs, c2, c3, c4, c5, nl_bs, c6, ferry_ferryref25_part_j1]) | (with_reducible refine Run.gC ?_ ?_ <;> intro hb <;> try simp only [hb]) | (with_reducible refine Run.gG ?_ ?_ <;> intro hb <;> try simp only [hb]) | (with_reducible refine Run.gQ ?_ ?_ <;> intro hb <;> try simp only [hb])))
        rw [← lp]
        refine (B.keep ((fH.tr (Frame.q _ _)).tr (Frame.q _ _))).tapp hx (fun l hl => by simp [visB, Heap.add_next, Heap.set_next, Heap.q_next, Heap.empty_next] at hl ⊢; omega) (by rw [eF] at hT; simp only [List.length_append, nl_len]; omega) fun y' H4 B4 => ?_
        (repeat' (first | (simp only [wp, extractV, exists_eq_left', if_true, if_false, ite_true, ite_false, reduceIte, Nat.reduceAdd, Nat.reduceLT, Nat.reduceLeDiff, Nat.reduceEqDiff, nadd hlt (show p.prs.length ≤ 9223372036854775807 by omega)]) | (with_reducible refine Run.gC ?_ ?_ <;> intro hb <;> try simp only [hb]) | (with_reducible refine Run.gG ?_ ?_ <;> intro hb <;> try simp only [hb]) | (with_reducible refine Run.gQ ?_ ?_ <;> intro hb <;> try simp only [hb])))
        refine ⟨hlt, _, y', rfl, ?_⟩
        rw [List.take_succ_eq_append_getElem hlt, List.map_append, docL_app, List.map_cons, List.map_nil, docL_one, eF, ← List.append_assoc]
        exact B4
    have hk0 : k = p.prs.length := by omega
    subst hk0
    rw [List.take_length] at B
    (repeat' (first | (simp only [wp, extractV, exists_eq_left', if_true, if_false, ite_true, ite_false, reduceIte, Nat.reduceAdd, Nat.reduceLT, Nat.reduceLeDiff, Nat.reduceEqDiff, nltF hlt, B.b, lc]) | (with_reducible refine Run.gC ?_ ?_ <;> intro hb <;> try simp only [hb]) | (with_reducible refine Run.gG ?_ ?_ <;> intro hb <;> try simp only [hb]) | (with_reducible refine Run.gQ ?_ ?_ <;> intro hb <;> try simp only [hb])))
    generalize eA3 : A2 ++ docL (p.prs.map F2) = A3 at B
    have hA3 : A3.length = A2.length + (docL (p.prs.map F2)).length := by rw [← eA3, List.length_append]
    clear hlt
    -- ports
    refine Run.loop (N := p.pts.length) (fun k st H => ∃ y, st = [y, iV k] ∧ Bc H0 x0 ⟨7, [[iV p.id, .bool p.mob, a, b, c, iV p.ev, d]]⟩ y (A3 ++ docL ((p.pts.take k).map F3)) H) ⟨_, rfl, by simpa [docL_nil] using B⟩ ?_
    rintro k st H hk ⟨y, rfl, B⟩
    simp only [ferry_ferryref25_part_l3]
    by_cases hlt : k < p.pts.length
    · have hix := hc.idx (k := .i64) (i := k) (by rw [List.length_map]; exact hlt)
      rw [map_get hlt] at hix
      have hq := hN.q _ (List.getElem_mem hlt)
      have i1 := itoa_le hq.z
      have i2 := itoa_le hq.d
      have i3 := itoa_le hq.f
      obtain ⟨r0, r1, r2, r3⟩ := pt_at p.pts[k]
      have e4 : (ptR p.pts[k]).length = 4 := rfl
      have t4 : (ptR p.pts[k]).take 4 = ptR p.pts[k] := rfl
      have hT := docL_take (f := F3) hlt
      have eF : F3 p.pts[k] = lineL (portW p.pts[k]) := by rw [← hF3]
      have nz := number_spec (G := G) (n + 1) hq.z
      have nd := number_spec (G := G) (n + 1) hq.d
      have nf := number_spec (G := G) (n + 1) hq.f
      rw [itoaB_bs] at nz nd nf
      have ri : (⟨#[112, 111, 114, 116, 32, 115, 97, 109, 112, 108, 101, 105, 110, 32]⟩ : ByteArray) = bs sSi := rfl
      have ro : (⟨#[112, 111, 114, 116, 32, 115, 97, 109, 112, 108, 101, 111, 117, 116, 32]⟩ : ByteArray) = bs sSo := rfl
      have qi : (⟨#[112, 111, 114, 116, 32, 113, 117, 101, 117, 101, 105, 110, 32]⟩ : ByteArray) = bs sQi := rfl
      have qo : (⟨#[112, 111, 114, 116, 32, 113, 117, 101, 117, 101, 111, 117, 116, 32]⟩ : ByteArray) = bs sQo := rfl
      have fl := B.fl
      have fH : Frame H ((H.add ⟨4, [[.int .i64 0, .int .i64 0, .int .i64 0, .int .i64 0]]⟩).set H.next ⟨4, [ptR p.pts[k]]⟩) (fun _ => False) := (Frame.add _ _).st (Nat.le_refl _) _
      by_cases h1 : p.pts[k].k = 1
      · have e1 : (p.pts[k].k == 1) = true := beq_iff_eq.2 h1
        have lp := line_si h1
        have eL := congrArg List.length lp
        simp only [List.length_append, nl_len, spc_len, y4] at eL
        obtain ⟨c1, c2, c3, c4⟩ := sum4 (w := sSi) (a := Go.Lib.itoa p.pts[k].z) (s := spc) (b := Go.Lib.itoa p.pts[k].f) (t := nlc) (by rw [nl_len, spc_len, y4]; omega)
        (repeat' (first | (simp only [wp, extractV, exists_eq_left', if_true, if_false, ite_true, ite_false, reduceIte, Nat.reduceAdd, Nat.reduceLT, Nat.reduceLeDiff, Nat.reduceEqDiff, nltT hlt, hix, fl, e4, t4, r0, r1, r3, e1, nz, nf, ri, c1, sp_bs, c2, c3, nl_bs, c4]) | (with_reducible refine Run.gC ?_ ?_ <;> intro hb <;> try simp only [hb]) | (with_reducible refine Run.gG ?_ ?_ <;> intro hb <;> try simp only [hb]) | (with_reducible refine Run.gQ ?_ ?_ <;> intro hb <;> try simp only [hb])))
        rw [← lp]
        refine (B.keep ((fH.tr (Frame.q _ _)).tr (Frame.q _ _))).tapp hx (fun l hl => by simp [visB, Heap.add_next, Heap.set_next, Heap.q_next, Heap.empty_next] at hl ⊢; omega) (by rw [eF] at hT; simp only [List.length_append, nl_len]; omega) fun y' H4 B4 => ?_
        (repeat' (first | (simp only [wp, extractV, exists_eq_left', if_true, if_false, ite_true, ite_false, reduceIte, Nat.reduceAdd, Nat.reduceLT, Nat.reduceLeDiff, Nat.reduceEqDiff, nadd hlt (show p.pts.length ≤ 9223372036854775807 by omega)]) | (with_reducible refine Run.gC ?_ ?_ <;> intro hb <;> try simp only [hb]) | (with_reducible refine Run.gG ?_ ?_ <;> intro hb <;> try simp only [hb]) | (with_reducible refine Run.gQ ?_ ?_ <;> intro hb <;> try simp only [hb])))
        refine ⟨hlt, y', rfl, ?_⟩
        rw [List.take_succ_eq_append_getElem hlt, List.map_append, docL_app, List.map_cons, List.map_nil, docL_one, eF, ← List.append_assoc]
        exact B4
      have e1 : (p.pts[k].k == 1) = false := beq_eq_false_iff_ne.2 h1
      by_cases h2 : p.pts[k].k = 2
      · have e2 : (p.pts[k].k == 2) = true := beq_iff_eq.2 h2
        have lp := line_so h2
        have eL := congrArg List.length lp
        simp only [List.length_append, nl_len, y5] at eL
        obtain ⟨c1, c2⟩ := sum2 (w := sSo) (a := Go.Lib.itoa p.pts[k].z) (t := nlc) (by rw [nl_len, y5]; omega)
        (repeat' (first | (simp only [wp, extractV, exists_eq_left', if_true, if_false, ite_true, ite_false, reduceIte, Nat.reduceAdd, Nat.reduceLT, Nat.reduceLeDiff, Nat.reduceEqDiff, nltT hlt, hix, fl, e4, t4, r0, r1, e1, e2, nz, ro, c1, nl_bs, c2]) | (with_reducible refine Run.gC ?_ ?_ <;> intro hb <;> try simp only [hb]) | (with_reducible refine Run.gG ?_ ?_ <;> intro hb <;> try simp only [hb]) | (with_reducible refine Run.gQ ?_ ?_ <;> intro hb <;> try simp only [hb])))
        rw [← lp]
        refine (B.keep fH).app hx (by rw [eF] at hT; simp only [List.length_append, nl_len]; omega) fun y' H4 B4 => ?_
        (repeat' (first | (simp only [wp, extractV, exists_eq_left', if_true, if_false, ite_true, ite_false, reduceIte, Nat.reduceAdd, Nat.reduceLT, Nat.reduceLeDiff, Nat.reduceEqDiff, nadd hlt (show p.pts.length ≤ 9223372036854775807 by omega)]) | (with_reducible refine Run.gC ?_ ?_ <;> intro hb <;> try simp only [hb]) | (with_reducible refine Run.gG ?_ ?_ <;> intro hb <;> try simp only [hb]) | (with_reducible refine Run.gQ ?_ ?_ <;> intro hb <;> try simp only [hb])))
        refine ⟨hlt, y', rfl, ?_⟩
        rw [List.take_succ_eq_append_getElem hlt, List.map_append, docL_app, List.map_cons, List.map_nil, docL_one, eF, ← List.append_assoc]
        exact B4
      have e2 : (p.pts[k].k == 2) = false := beq_eq_false_iff_ne.2 h2
      by_cases h3 : p.pts[k].k = 3
      · have e3 : (p.pts[k].k == 3) = true := beq_iff_eq.2 h3
        have lp := line_qi h3
        have eL := congrArg List.length lp
        simp only [List.length_append, nl_len, spc_len, y6] at eL
        obtain ⟨c1, c2, c3, c4⟩ := sum4 (w := sQi) (a := Go.Lib.itoa p.pts[k].z) (s := spc) (b := Go.Lib.itoa p.pts[k].d) (t := nlc) (by rw [nl_len, spc_len, y6]; omega)
        (repeat' (first | (simp only [wp, extractV, exists_eq_left', if_true, if_false, ite_true, ite_false, reduceIte, Nat.reduceAdd, Nat.reduceLT, Nat.reduceLeDiff, Nat.reduceEqDiff, nltT hlt, hix, fl, e4, t4, r0, r1, r2, e1, e2, e3, nz, nd, qi, c1, sp_bs, c2, c3, nl_bs, c4]) | (with_reducible refine Run.gC ?_ ?_ <;> intro hb <;> try simp only [hb]) | (with_reducible refine Run.gG ?_ ?_ <;> intro hb <;> try simp only [hb]) | (with_reducible refine Run.gQ ?_ ?_ <;> intro hb <;> try simp only [hb])))
        rw [← lp]
        refine (B.keep ((fH.tr (Frame.q _ _)).tr (Frame.q _ _))).tapp hx (fun l hl => by simp [visB, Heap.add_next, Heap.set_next, Heap.q_next, Heap.empty_next] at hl ⊢; omega) (by rw [eF] at hT; simp only [List.length_append, nl_len]; omega) fun y' H4 B4 => ?_
        (repeat' (first | (simp only [wp, extractV, exists_eq_left', if_true, if_false, ite_true, ite_false, reduceIte, Nat.reduceAdd, Nat.reduceLT, Nat.reduceLeDiff, Nat.reduceEqDiff, nadd hlt (show p.pts.length ≤ 9223372036854775807 by omega)]) | (with_reducible refine Run.gC ?_ ?_ <;> intro hb <;> try simp only [hb]) | (with_reducible refine Run.gG ?_ ?_ <;> intro hb <;> try simp only [hb]) | (with_reducible refine Run.gQ ?_ ?_ <;> intro hb <;> try simp only [hb])))
        refine ⟨hlt, y', rfl, ?_⟩
        rw [List.take_succ_eq_append_getElem hlt, List.map_append, docL_app, List.map_cons, List.map_nil, docL_one, eF, ← List.append_assoc]
        exact B4
      · have e3 : (p.pts[k].k == 3) = false := beq_eq_false_iff_ne.2 h3
        have lp := line_qo h1 h2 h3
        have eL := congrArg List.length lp
        simp only [List.length_append, nl_len, spc_len, y7] at eL
        obtain ⟨c1, c2, c3, c4⟩ := sum4 (w := sQo) (a := Go.Lib.itoa p.pts[k].z) (s := spc) (b := Go.Lib.itoa p.pts[k].d) (t := nlc) (by rw [nl_len, spc_len, y7]; omega)
        (repeat' (first | (simp only [wp, extractV, exists_eq_left', if_true, if_false, ite_true, ite_false, reduceIte, Nat.reduceAdd, Nat.reduceLT, Nat.reduceLeDiff, Nat.reduceEqDiff, nltT hlt, hix, fl, e4, t4, r0, r1, r2, e1, e2, e3, nz, nd, qo, c1, sp_bs, c2, c3, nl_bs, c4]) | (with_reducible refine Run.gC ?_ ?_ <;> intro hb <;> try simp only [hb]) | (with_reducible refine Run.gG ?_ ?_ <;> intro hb <;> try simp only [hb]) | (with_reducible refine Run.gQ ?_ ?_ <;> intro hb <;> try simp only [hb])))
        rw [← lp]
        refine (B.keep ((fH.tr (Frame.q _ _)).tr (Frame.q _ _))).tapp hx (fun l hl => by simp [visB, Heap.add_next, Heap.set_next, Heap.q_next, Heap.empty_next] at hl ⊢; omega) (by rw [eF] at hT; simp only [List.length_append, nl_len]; omega) fun y' H4 B4 => ?_
        (repeat' (first | (simp only [wp, extractV, exists_eq_left', if_true, if_false, ite_true, ite_false, reduceIte, Nat.reduceAdd, Nat.reduceLT, Nat.reduceLeDiff, Nat.reduceEqDiff, nadd hlt (show p.pts.length ≤ 9223372036854775807 by omega)]) | (with_reducible refine Run.gC ?_ ?_ <;> intro hb <;> try simp only [hb]) | (with_reducible refine Run.gG ?_ ?_ <;> intro hb <;> try simp only [hb]) | (with_reducible refine Run.gQ ?_ ?_ <;> intro hb <;> try simp only [hb])))
        refine ⟨hlt, y', rfl, ?_⟩
        rw [List.take_succ_eq_append_getElem hlt, List.map_append, docL_app, List.map_cons, List.map_nil, docL_one, eF, ← List.append_assoc]
        exact B4
    have hk0 : k = p.pts.length := by omega
    subst hk0
    rw [List.take_length] at B
    generalize eA4 : A3 ++ docL (p.pts.map F3) = A4 at B
    have hA4 : A4.length = A3.length + (docL (p.pts.map F3)).length := by rw [← eA4, List.length_append]
    have last : ∀ (A : List UInt8) (y : V) (H : Heap), A.length + (docL (p.sems.map F4)).length ≤ room → acc ++ docL (partL p home) = A ++ docL (p.sems.map F4) → Bc H0 x0 ⟨7, [[iV p.id, .bool p.mob, a, b, c, iV p.ev, d]]⟩ y A H →
        Run (ferry_ferryref25_part_j2 G (sem (cfg G) (n + 2)) (.ptr H0.next 0 0) .nils y) H fun r H' => Own H' (r.2.getD 0 .undef) 1 (byR (acc ++ docL (partL p home))) ∧ Frame H0 H' (fun m => loc x0 = some m) ∧ ∀ m, loc (r.2.getD 0 .undef) = some m → loc x0 = some m ∨ H0.next ≤ m := by
      intro A y H hAl eA B
      simp only [ferry_ferryref25_part_j2]
      (repeat' (first | (simp only [wp, extractV, exists_eq_left', if_true, if_false, ite_true, ite_false, reduceIte, Nat.reduceAdd, Nat.reduceLT, Nat.reduceLeDiff, Nat.reduceEqDiff, B.b, ld]) | (with_reducible refine Run.gC ?_ ?_ <;> intro hb <;> try simp only [hb]) | (with_reducible refine Run.gG ?_ ?_ <;> intro hb <;> try simp only [hb]) | (with_reducible refine Run.gQ ?_ ?_ <;> intro hb <;> try simp only [hb])))
      refine Run.loop (N := p.sems.length) (fun k st H => ∃ y, st = [y, iV k] ∧ Bc H0 x0 ⟨7, [[iV p.id, .bool p.mob, a, b, c, iV p.ev, d]]⟩ y (A ++ docL ((p.sems.take k).map F4)) H) ⟨_, rfl, by simpa [docL_nil] using B⟩ ?_
      rintro k st H hk ⟨y, rfl, B⟩
      simp only [ferry_ferryref25_part_l4]
      by_cases hlt : k < p.sems.length
      · have hix := hd.idx (k := .i64) (i := k) (by rw [List.length_map]; exact hlt)
        rw [map_get hlt] at hix
        have hm := hN.sm _ (List.getElem_mem hlt)
        have i1 := itoa_le hm
        have ei : (iR p.sems[k])[0]? = some (.int .i64 p.sems[k]) := rfl
        have hT := docL_take (f := F4) hlt
        have eF : F4 p.sems[k] = lineL (semW p.sems[k]) := by rw [← hF4]
        have eL := congrArg List.length (line_sem p.sems[k])
        simp only [List.length_append, nl_len, y9] at eL
        have nm := number_spec (G := G) (n + 1) hm
        rw [itoaB_bs] at nm
        have rg : (⟨#[115, 101, 109, 32]⟩ : ByteArray) = bs sSem := rfl
        obtain ⟨c1, c2⟩ := sum2 (w := sSem) (a := Go.Lib.itoa p.sems[k]) (t := nlc) (by rw [nl_len, y9]; omega)
        (repeat' (first | (simp only [wp, extractV, exists_eq_left', if_true, if_false, ite_true, ite_false, reduceIte, Nat.reduceAdd, Nat.reduceLT, Nat.reduceLeDiff, Nat.reduceEqDiff, nltT hlt, hix, ei, nm, rg, c1, nl_bs, c2]) | (with_reducible refine Run.gC ?_ ?_ <;> intro hb <;> try simp only [hb]) | (with_reducible refine Run.gG ?_ ?_ <;> intro hb <;> try simp only [hb]) | (with_reducible refine Run.gQ ?_ ?_ <;> intro hb <;> try simp only [hb])))
        rw [← line_sem]
        refine B.app hx (by rw [eF] at hT; simp only [List.length_append, nl_len]; omega) fun y' H4 B4 => ?_
        (repeat' (first | (simp only [wp, extractV, exists_eq_left', if_true, if_false, ite_true, ite_false, reduceIte, Nat.reduceAdd, Nat.reduceLT, Nat.reduceLeDiff, Nat.reduceEqDiff, nadd hlt (show p.sems.length ≤ 9223372036854775807 by omega)]) | (with_reducible refine Run.gC ?_ ?_ <;> intro hb <;> try simp only [hb]) | (with_reducible refine Run.gG ?_ ?_ <;> intro hb <;> try simp only [hb]) | (with_reducible refine Run.gQ ?_ ?_ <;> intro hb <;> try simp only [hb])))
        refine ⟨hlt, y', rfl, ?_⟩
        rw [List.take_succ_eq_append_getElem hlt, List.map_append, docL_app, List.map_cons, List.map_nil, docL_one, eF, ← List.append_assoc]
        exact B4
      have hk0 : k = p.sems.length := by omega
      subst hk0
      rw [List.take_length, ← eA] at B
      (repeat' (first | (simp only [wp, extractV, exists_eq_left', if_true, if_false, ite_true, ite_false, reduceIte, Nat.reduceAdd, Nat.reduceLT, Nat.reduceLeDiff, Nat.reduceEqDiff, nltF hlt]) | (with_reducible refine Run.gC ?_ ?_ <;> intro hb <;> try simp only [hb]) | (with_reducible refine Run.gG ?_ ?_ <;> intro hb <;> try simp only [hb]) | (with_reducible refine Run.gQ ?_ ?_ <;> intro hb <;> try simp only [hb])))
      exact ⟨B.o, B.fr, fun m e => (B.ge m e).imp id fun h => by omega⟩
    have eA : A4 = acc ++ (docL [lineL (partW p home)] ++ docL (p.pgs.map F1) ++ docL (p.prs.map F2) ++ docL (p.pts.map F3)) := by
      rw [← eA4, ← eA3, ← eA2, ← eA1, docL_one]; simp only [List.append_assoc]
    by_cases h0 : p.ev = 0
    · have e0 : (p.ev == 0) = true := beq_iff_eq.2 h0
      rw [if_pos h0] at eP eD
      simp only [docL_nil, List.length_nil] at eD
      (repeat' (first | (simp only [wp, extractV, exists_eq_left', if_true, if_false, ite_true, ite_false, reduceIte, Nat.reduceAdd, Nat.reduceLT, Nat.reduceLeDiff, Nat.reduceEqDiff, nltF hlt, B.b, e0]) | (with_reducible refine Run.gC ?_ ?_ <;> intro hb <;> try simp only [hb]) | (with_reducible refine Run.gG ?_ ?_ <;> intro hb <;> try simp only [hb]) | (with_reducible refine Run.gQ ?_ ?_ <;> intro hb <;> try simp only [hb])))
      refine last A4 y H (by omega) ?_ B
      rw [eP, eA]
      simp only [docL_app, docL_nil, List.append_assoc, List.nil_append]
    · have e0 : (p.ev == 0) = false := beq_eq_false_iff_ne.2 h0
      rw [if_neg h0] at eP eD
      rw [docL_one, List.length_append, nl_len] at eD
      have i1 := itoa_le hN.ev
      have eL := congrArg List.length (line_ev p.ev)
      simp only [List.length_append, nl_len, y8] at eL
      have nm := number_spec (G := G) (n + 1) hN.ev
      rw [itoaB_bs] at nm
      have rg : (⟨#[101, 118, 101, 110, 116, 115, 32]⟩ : ByteArray) = bs sEv := rfl
      obtain ⟨c1, c2⟩ := sum2 (w := sEv) (a := Go.Lib.itoa p.ev) (t := nlc) (by rw [nl_len, y8]; omega)
      (repeat' (first | (simp only [wp, extractV, exists_eq_left', if_true, if_false, ite_true, ite_false, reduceIte, Nat.reduceAdd, Nat.reduceLT, Nat.reduceLeDiff, Nat.reduceEqDiff, nltF hlt, B.b, e0, nm, rg, c1, nl_bs, c2]) | (with_reducible refine Run.gC ?_ ?_ <;> intro hb <;> try simp only [hb]) | (with_reducible refine Run.gG ?_ ?_ <;> intro hb <;> try simp only [hb]) | (with_reducible refine Run.gQ ?_ ?_ <;> intro hb <;> try simp only [hb])))
      rw [← line_ev]
      refine B.app hx (by simp only [List.length_append, nl_len]; omega) fun y' H4 B4 => ?_
      (repeat' (first | (simp only [wp, extractV, exists_eq_left', if_true, if_false, ite_true, ite_false, reduceIte, Nat.reduceAdd, Nat.reduceLT, Nat.reduceLeDiff, Nat.reduceEqDiff]) | (with_reducible refine Run.gC ?_ ?_ <;> intro hb <;> try simp only [hb]) | (with_reducible refine Run.gG ?_ ?_ <;> intro hb <;> try simp only [hb]) | (with_reducible refine Run.gQ ?_ ?_ <;> intro hb <;> try simp only [hb])))
      refine last _ y' H4 (by simp only [List.length_append, nl_len]; omega) ?_ B4
      rw [eP, eA]
      simp only [docL_app, docL_one, List.append_assoc]
  cases hm : p.mob
  · rw [hm] at key
    (repeat' (first | (simp only [wp, extractV, exists_eq_left', if_true, if_false, ite_true, ite_false, reduceIte, Nat.reduceAdd, Nat.reduceLT, Nat.reduceLeDiff, Nat.reduceEqDiff, rf, hm]) | (with_reducible refine Run.gC ?_ ?_ <;> intro hb <;> try simp only [hb]) | (with_reducible refine Run.gG ?_ ?_ <;> intro hb <;> try simp only [hb]) | (with_reducible refine Run.gQ ?_ ?_ <;> intro hb <;> try simp only [hb])))
    exact key
  · rw [hm] at key
    (repeat' (first | (simp only [wp, extractV, exists_eq_left', if_true, if_false, ite_true, ite_false, reduceIte, Nat.reduceAdd, Nat.reduceLT, Nat.reduceLeDiff, Nat.reduceEqDiff, rm, hm]) | (with_reducible refine Run.gC ?_ ?_ <;> intro hb <;> try simp only [hb]) | (with_reducible refine Run.gG ?_ ?_ <;> intro hb <;> try simp only [hb]) | (with_reducible refine Run.gQ ?_ ?_ <;> intro hb <;> try simp only [hb])))
    exact key
end Go.Fv.Tr
