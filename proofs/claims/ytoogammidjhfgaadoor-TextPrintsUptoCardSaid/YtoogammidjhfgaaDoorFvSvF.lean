/-
  A script's text: the program's. By an AI agent; no person has read it.
-/
import Derived.Test.YtoogammidjhfgaaDoorFvSvE
set_option linter.unusedVariables false
set_option linter.unusedSimpArgs false
set_option linter.unusedSectionVars false
/-! A script's text: the program's. -/
namespace Go.Fv.Tr
open Go Go.Fv Go.Proofs
set_option linter.unusedSimpArgs false
set_option linter.unusedVariables false
variable {G : Nat → Option (List V)}

def wCfg : List UInt8 := [99, 111, 110, 102, 105, 103]
def wWin : List UInt8 := [119, 105, 110, 100, 111, 119]
def wSnap : List UInt8 := [115, 110, 97, 112]
def wLink : List UInt8 := [108, 105, 110, 107]
def wInp : List UInt8 := [105, 110, 112, 117, 116]
def cfgW (s : Sc) : List (List UInt8) := [wCfg, Go.Lib.itoa s.ticks, Go.Lib.itoa s.tries]
def winW (w : Wn) : List (List UInt8) := [wWin, if w.p = -1 then wSnap else Go.Lib.itoa w.p, Go.Lib.itoa w.s, Go.Lib.itoa w.l]
def linkW (q : Q4) : List (List UInt8) := [wLink, Go.Lib.itoa q.a, Go.Lib.itoa q.b, Go.Lib.itoa q.c, Go.Lib.itoa q.d]
def inpW (n : In) : List (List UInt8) := [wInp, Go.Lib.itoa n.p, Go.Lib.itoa n.f, Go.Lib.itoa n.q, dataL n.d.data.toList]
def partsL (ps : List Pl) (hs : List Int) : List (List UInt8) := (ps.zip hs).flatMap fun x => partL x.1 x.2
def printL (s : Sc) : List (List UInt8) := [lineL (cfgW s)] ++ partsL s.parts s.homes ++ s.wins.map (fun w => lineL (winW w)) ++ s.links.map (fun q => lineL (linkW q)) ++ s.ins.map (fun n => lineL (inpW n)) ++ s.ops.map opL
/-- What bounds a script's numbers and bytes; how long its text is. -/
structure ScN (s : Sc) : Prop where
  t : inR s.ticks
  r : inR s.tries
  p : ∀ p ∈ s.parts, PlN p
  h : ∀ m ∈ s.homes, inR m
  w : ∀ w ∈ s.wins, inR w.p ∧ inR w.s ∧ inR w.l
  k : ∀ q ∈ s.links, Rng q
  i : ∀ n ∈ s.ins, inR n.p ∧ inR n.f ∧ inR n.q ∧ n.d.data.toList.length ≤ 1048576
  o : ∀ q ∈ s.ops, Rng q
  len : s.parts.length = s.homes.length
  l1 : s.parts.length ≤ 1048576
  l2 : s.wins.length ≤ 1048576
  l3 : s.links.length ≤ 1048576
  l4 : s.ins.length ≤ 1048576
  l5 : s.ops.length ≤ 1048576
  lines : (printL s).length * 16 ≤ room
  doc : (docL (printL s)).length ≤ room
theorem PlR.in_ {H K : Heap} {q : Nat → Prop} {row : List V} {p : Pl} (h : PlR H q row p) (hn : K.next = H.next) (hb : ∀ l, l < H.next → K.blk l = H.blk l) : PlR K q row p := by
  obtain ⟨a, b, c, d, e, ra, rb, rc, rd, qa⟩ := h
  exact ⟨a, b, c, d, e, ra.in_ hn hb, rb.in_ hn hb, rc.in_ hn hb, rd.in_ hn hb, qa⟩
theorem thaw_iV (H : Heap) (m : Int) : thawV true H (iV m) = some (iV m) := by simp [thawV, Fv.thaw, V.flat]
theorem join_doc : ∀ {ls : List (List UInt8)}, ls ≠ [] → Go.Lib.join ls nlc ++ nlc = docL ls
  | w :: ls, _ => by
    rw [Go.Lib.join_cons]
    have : ∀ (ls : List (List UInt8)) (w : List UInt8), w ++ Go.Lib.joinTail nlc ls ++ nlc = docL (w :: ls) := by
      intro ls
      induction ls with
      | nil => intro w; simp [Go.Lib.joinTail, docL]
      | cons u ls ih =>
        intro w
        have := ih u
        simp only [docL, List.flatMap_cons, Go.Lib.joinTail, List.map_cons, List.flatten_cons] at this ⊢
        rw [← this]
        simp only [List.append_assoc]
    exact this ls w
theorem zip_take {ps : List Pl} {hs : List Int} {k : Nat} (h1 : k < ps.length) (h2 : k < hs.length) : ((ps.zip hs).take (k + 1)).flatMap (fun x => partL x.1 x.2) = ((ps.zip hs).take k).flatMap (fun x => partL x.1 x.2) ++ partL ps[k] hs[k] := by
  have h3 : k < (ps.zip hs).length := by rw [List.length_zip]; omega
  rw [List.take_succ_eq_append_getElem h3, List.flatMap_append, List.getElem_zip]
  simp
theorem zip_all {ps : List Pl} {hs : List Int} (h : ps.length = hs.length) : (ps.zip hs).take ps.length = ps.zip hs := List.take_of_length_le (by rw [List.length_zip]; omega)
theorem flat_len {α β : Type} (f : α → List β) (l : List α) (k : Nat) : ((l.take k).flatMap f).length ≤ (l.flatMap f).length := by
  conv => rhs; rw [← List.take_append_drop k l]
  rw [List.flatMap_append, List.length_append]
  omega
theorem flat_step {α β : Type} (f : α → List β) {l : List α} {k : Nat} (h : k < l.length) : ((l.take k).flatMap f).length + (f l[k]).length ≤ (l.flatMap f).length := by
  have := flat_len f l (k + 1)
  rw [List.take_succ_eq_append_getElem h, List.flatMap_append, List.length_append] at this
  simpa using this
theorem win_at (w : Wn) : (wnR w)[0]? = some (.int .i64 w.p) ∧ (wnR w)[1]? = some (.int .i64 w.s) ∧ (wnR w)[2]? = some (.int .i64 w.l) := ⟨rfl, rfl, rfl⟩

set_option maxRecDepth 20000 in
theorem print_run (hG : tabOf G = true) (hE : glob (cfg G) 10 = .iptr [errA] 0) (n : Nat) {H : Heap} {l : List V} {s : Sc} {ps hs ws ks is os : V} {rows : List (List V)} (h : ScR H l s ps hs ws ks is os rows) (hfl : H.floor = 0) (hN : chk s = none → ScN s) :
    Run (callV (cfg G) (sem (cfg G) (n + 6)) 28 [.agg l]) H fun v H' => Frame H H' (fun _ => False) ∧
      (chk s = none ∧ v = .tuple [.str (bs (docL (printL s))), .nili] ∨ ∃ k lb, chk s = some k ∧ v = .tuple [.str (bs []), .iface 186 (.ptr lb 0 0)] ∧ H'.blk lb = some ⟨2, [[iV k, errA]]⟩ ∧ lb < H'.next) := by
  have h00 := h
  obtain ⟨rfl, _⟩ := h00
  rw [callV_inl rfl, ferry_text_Print_eq]
  simp only [ferry_text_Print]
  (repeat' (first | (simp only [wp, extractV, exists_eq_left', if_true, if_false, ite_true, ite_false, reduceIte, Nat.reduceAdd, Nat.reduceLT, Nat.reduceLeDiff, Nat.reduceEqDiff, hfl]) | (with_reducible refine Run.gC ?_ ?_ <;> intro hb <;> try simp only [hb]) | (with_reducible refine Run.gG ?_ ?_ <;> intro hb <;> try simp only [hb]) | (with_reducible refine Run.gQ ?_ ?_ <;> intro hb <;> try simp only [hb])))
  have f0 : Frame H (H.add ⟨8, [[iV s.ticks, ps, hs, ws, ks, iV s.tries, is, os]]⟩) (fun _ => False) := Frame.add _ _
  have ScRf : ∀ {K K' : Heap}, ScR K [iV s.ticks, ps, hs, ws, ks, iV s.tries, is, os] s ps hs ws ks is os rows → Frame K K' (fun _ => False) → ScR K' [iV s.ticks, ps, hs, ws, ks, iV s.tries, is, os] s ps hs ws ks is os rows := fun r f =>
    ⟨r.eq, r.p.frame f fun _ _ => id, r.h.frame f fun _ _ => id, r.w.frame f fun _ _ => id, r.k.frame f fun _ _ => id, r.i.frame f fun _ _ => id, r.o.frame f fun _ _ => id, r.len, fun j hj => (r.row j hj).frame f (fun _ _ => id), r.small, r.bnd⟩
  refine (check_run hE (n + 3) (ScRf h f0) hfl).mono fun v H1 ⟨f1, hv⟩ => ?_
  have n1 : H.next + 1 ≤ H1.next := f1.next
  have hb1 : H1.blk H.next = some ⟨8, [[iV s.ticks, ps, hs, ws, ks, iV s.tries, is, os]]⟩ := (f1.old _ (Nat.lt_succ_self _) id).trans (if_pos rfl)
  rcases hv with ⟨hc, rfl⟩ | ⟨k, lb, hc, rfl, hb⟩
  case inr =>
    (repeat' (first | (simp only [wp, extractV, exists_eq_left', if_true, if_false, ite_true, ite_false, reduceIte, Nat.reduceAdd, Nat.reduceLT, Nat.reduceLeDiff, Nat.reduceEqDiff, mt_bs]) | (with_reducible refine Run.gC ?_ ?_ <;> intro hb <;> try simp only [hb]) | (with_reducible refine Run.gG ?_ ?_ <;> intro hb <;> try simp only [hb]) | (with_reducible refine Run.gQ ?_ ?_ <;> intro hb <;> try simp only [hb])))
    exact ⟨f0.tr f1, .inr ⟨k, lb, hc, rfl, hb⟩⟩
  have hN := hN hc
  have hf1 : H1.floor = 0 := f1.floor.trans hfl
  have nn : eqV .iface true .nili .nili = some true := rfl
  have m1 : ¬ (H.next = H1.next) := by omega
  have m2 : ¬ (H1.next = H.next) := by omega
  have hr : room = 140737488355328 := rfl
  have nt := num_spec hG (n + 3) hN.t
  have nr := num_spec hG (n + 3) hN.r
  have rc : (⟨#[99, 111, 110, 102, 105, 103]⟩ : ByteArray) = bs wCfg := rfl
  have b20 : ∀ w ∈ cfgW s, w.length ≤ 20 := by
    have := itoa_le hN.t
    have := itoa_le hN.r
    intro w hw
    simp only [cfgW, List.mem_cons, List.not_mem_nil, or_false] at hw
    rcases hw with rfl | rfl | rfl
    · decide
    · assumption
    · assumption
  have hl0 := small_line ⟨b20, by simp [cfgW], by simp [cfgW]⟩
  (repeat' (first | (simp only [wp, extractV, exists_eq_left', if_true, if_false, ite_true, ite_false, reduceIte, Nat.reduceAdd, Nat.reduceLT, Nat.reduceLeDiff, Nat.reduceEqDiff, nn, hb1, hf1, m1, m2, nt, nr, rc, Run.slice]) | (with_reducible refine Run.gC ?_ ?_ <;> intro hb <;> try simp only [hb]) | (with_reducible refine Run.gG ?_ ?_ <;> intro hb <;> try simp only [hb]) | (with_reducible refine Run.gQ ?_ ?_ <;> intro hb <;> try simp only [hb])))
  refine ⟨(cfgW s).map stB, rfl, ?_⟩
  refine qline_run (n + 4) (fun l hl => by simp [visB, Heap.add_next, Heap.set_next, Heap.q_next, Heap.empty_next] at hl ⊢; omega) (rd_new _ (cfgW s)) (by simp [cfgW]) (by rw [hr]; simp [cfgW]) (by omega) fun H2 f2 => ?_
  have fA : Frame H1 H2 (fun _ => False) := ((((Frame.add _ _).st (Nat.le_refl _) _).tr (Frame.q _ _)).tr (Frame.q _ _)).tr ((Frame.add _ _).tr f2)
  have n2 : H1.next + 2 ≤ H2.next := f2.next
  have hb2 : H2.blk H.next = some ⟨8, [[iV s.ticks, ps, hs, ws, ks, iV s.tries, is, os]]⟩ := (fA.old _ (by omega) id).trans hb1
  have hc2 : H2.blk H1.next = some ⟨6, [[iV s.ticks, ps, hs, ws, ks, iV s.tries]]⟩ := by
    rw [f2.old H1.next (by show H1.next < H1.next + 1 + 1; omega) id, Heap.add_blk, if_neg (by show ¬ (H1.next = H1.next + 1); omega), Heap.q_blk, if_pos (by show H1.next < H1.next + 1; omega), Heap.q_blk, if_pos (by show H1.next < H1.next + 1; omega), Heap.set_blk, if_pos rfl]
  have m3 : ¬ (H1.next = H2.next) := by omega
  have m4 : ¬ (H.next = H2.next) := by omega
  have r2 := ScRf h (f0.tr (f1.tr fA))
  have lp := r2.p.len
  rw [r2.len] at lp
  have lw := r2.w.len
  have lk := r2.k.len
  have li := r2.i.len
  have lo := r2.o.len
  rw [List.length_map] at lw lk li lo
  have hf2 : H2.floor = 0 := fA.floor.trans hf1
  (repeat' (first | (simp only [wp, extractV, exists_eq_left', if_true, if_false, ite_true, ite_false, reduceIte, Nat.reduceAdd, Nat.reduceLT, Nat.reduceLeDiff, Nat.reduceEqDiff]) | (with_reducible refine Run.gC ?_ ?_ <;> intro hb <;> try simp only [hb]) | (with_reducible refine Run.gG ?_ ?_ <;> intro hb <;> try simp only [hb]) | (with_reducible refine Run.gQ ?_ ?_ <;> intro hb <;> try simp only [hb])))
  refine ⟨[stB (lineL (cfgW s))], rfl, ?_⟩
  have A0 : Ac H2 (.ref H2.next 1 0 1 1 true) [lineL (cfgW s)] (H2.add ⟨1, [stB (lineL (cfgW s))]⟩) := Ac.new hf2
  have hz1 : H.next < H2.next := by omega
  have hz2 : H1.next < H2.next := by omega
  (repeat' (first | (simp only [wp, extractV, exists_eq_left', if_true, if_false, ite_true, ite_false, reduceIte, Nat.reduceAdd, Nat.reduceLT, Nat.reduceLeDiff, Nat.reduceEqDiff, m3, m4, hc2, hb2, lp]) | (with_reducible refine Run.gC ?_ ?_ <;> intro hb <;> try simp only [hb]) | (with_reducible refine Run.gG ?_ ?_ <;> intro hb <;> try simp only [hb]) | (with_reducible refine Run.gQ ?_ ?_ <;> intro hb <;> try simp only [hb])))
  have eP : (printL s).length = 1 + (partsL s.parts s.homes).length + s.wins.length + s.links.length + s.ins.length + s.ops.length := by simp only [printL, List.length_append, List.length_map, List.length_cons, List.length_nil]
  have eQ : (partsL s.parts s.homes).length = ((s.parts.zip s.homes).flatMap fun x => partL x.1 x.2).length := rfl
  have hLn := hN.lines
  have l1 := hN.l1
  have l2 := hN.l2
  have l3 := hN.l3
  have l4 := hN.l4
  have l5 := hN.l5
  have hlen := hN.len
  generalize H2.add ⟨1, [stB (lineL (cfgW s))]⟩ = H3 at *
  generalize eL0 : [lineL (cfgW s)] = L0 at A0
  have n00 : L0.length = 1 := by rw [← eL0]; rfl
  -- parts
  refine Run.loop (N := s.parts.length) (fun k st H => ∃ y, st = [y, iV k] ∧ Ac H2 y (L0 ++ ((s.parts.zip s.homes).take k).flatMap (fun x => partL x.1 x.2)) H) ⟨_, rfl, by simpa using A0⟩ ?_
  rintro k st K hk ⟨y, rfl, A⟩
  simp only [ferry_text_Print_l1]
  have rK := ScRf r2 A.fr
  by_cases hlt : k < s.parts.length
  · have hlr : k < rows.length := by rw [rK.len]; exact hlt
    have hlh : k < s.homes.length := by omega
    obtain ⟨px, hix, hpl, _⟩ := rK.p.idx (k := .i64) (i := k) hlr
    have hR := rK.row k hlr
    have h7 := row7 hR
    have ld : ∀ Q, Run (loadN 7 px) K Q ↔ Q (.agg rows[k]) K := fun Q => by
      rw [Run.loadNAt hpl (by omega), List.drop_zero, List.take_of_length_le (by omega)]
    have htk : rows[k].take 7 = rows[k] := List.take_of_length_le (by omega)
    have hdp : rows[k].drop 7 = [] := List.drop_of_length_le (by omega)
    have fl := A.fl
    have hck := A.at hc2 hz2
    have nK := A.fr.next
    have m5 : ¬ (H1.next = K.next) := by omega
    have m6 : ¬ (K.next = H1.next) := by omega
    have e7 : 7 ≤ rows[k].length := by omega
    -- the home of the part
    have fB : Frame K ((K.add ⟨7, [[.int .i64 0, .bool false, .nils, .nils, .nils, .int .i64 0, .nils]]⟩).set K.next ⟨7, [rows[k]]⟩) (fun _ => False) := (Frame.add _ _).st (Nat.le_refl _) _
    obtain ⟨ph, hih, hph, _⟩ := (rK.h.frame fB (fun _ _ => id)).idx (k := .i64) (i := k) (by rw [List.length_map]; exact hlh)
    rw [map_get hlh] at hph
    have lh : ∀ Q, Run (load1 ph) ((K.add ⟨7, [[.int .i64 0, .bool false, .nils, .nils, .nils, .int .i64 0, .nils]]⟩).set K.next ⟨7, [rows[k]]⟩) Q ↔ Q (iV s.homes[k]) ((K.add ⟨7, [[.int .i64 0, .bool false, .nils, .nils, .nils, .int .i64 0, .nils]]⟩).set K.next ⟨7, [rows[k]]⟩) := fun Q => Run.loadAt hph rfl
    have hPN := hN.p _ (List.getElem_mem hlt)
    have hHN := hN.h _ (List.getElem_mem hlh)
    have hzl : k < (s.parts.zip s.homes).length := by rw [List.length_zip]; omega
    have hst : (((s.parts.zip s.homes).take k).flatMap (fun x => partL x.1 x.2)).length + (partL s.parts[k] s.homes[k]).length ≤ ((s.parts.zip s.homes).flatMap (fun x => partL x.1 x.2)).length := by
      have := flat_step (fun x : Pl × Int => partL x.1 x.2) hzl
      rw [List.getElem_zip] at this
      exact this
    (repeat' (first | (simp only [wp, extractV, exists_eq_left', if_true, if_false, ite_true, ite_false, reduceIte, Nat.reduceAdd, Nat.reduceLT, Nat.reduceLeDiff, Nat.reduceEqDiff, nltT hlt, hix, ld, fl, htk, hdp, h7, m5, m6, hck, hih, lh]) | (with_reducible refine Run.gC ?_ ?_ <;> intro hb <;> try simp only [hb]) | (with_reducible refine Run.gG ?_ ?_ <;> intro hb <;> try simp only [hb]) | (with_reducible refine Run.gQ ?_ ?_ <;> intro hb <;> try simp only [hb])))
    have rB := hR.frame fB (fun _ _ => id)
    refine Run.qAll (P := fun y K' => Rd K' y 1 ((partL s.parts[k] s.homes[k]).map stB)) (fun l hl => by simp [visB, Heap.add_next, Heap.set_next, Heap.q_next, Heap.empty_next] at hl ⊢; omega) (fun J k1 k2 k3 => ?_) fun z K1 K2 hz f e1 e2 => ?_
    · obtain ⟨row', hth, hS⟩ := (rB.in_ k1 k3).thaw
      exact (Run.callOwn rfl (bs := [.agg row', iV s.homes[k]]) (by simp only [List.mapM_cons, List.mapM_nil, hth, thaw_iV]; rfl) (by simp only [List.all_cons, List.all_nil, hS.closed]; rfl) (partLines_run hG (n + 1) hS hPN hHN k2)).mono fun x K' ⟨o, f, _⟩ => ⟨f, o.rd⟩
    have hz2' : Rd K2 z 1 ((partL s.parts[k] s.homes[k]).map stB) := hz.keep (by omega) fun l _ => by rw [e1]
    have nK2 : K.next + 1 ≤ K2.next := f.next
    refine (A.keep (fB.tr f)).tapps hz2' (fun l hl => by simp [visB, Heap.add_next, Heap.set_next, Heap.q_next, Heap.empty_next] at hl ⊢; omega) (by rw [List.length_append]; omega) fun y' H4 A4 => ?_
    (repeat' (first | (simp only [wp, extractV, exists_eq_left', if_true, if_false, ite_true, ite_false, reduceIte, Nat.reduceAdd, Nat.reduceLT, Nat.reduceLeDiff, Nat.reduceEqDiff, nadd hlt (show s.parts.length ≤ 9223372036854775807 by omega)]) | (with_reducible refine Run.gC ?_ ?_ <;> intro hb <;> try simp only [hb]) | (with_reducible refine Run.gG ?_ ?_ <;> intro hb <;> try simp only [hb]) | (with_reducible refine Run.gQ ?_ ?_ <;> intro hb <;> try simp only [hb])))
    refine ⟨hlt, y', rfl, ?_⟩
    rw [zip_take hlt hlh, ← List.append_assoc]
    exact A4
  have hk0 : k = s.parts.length := by omega
  subst hk0
  rw [zip_all hlen] at A
  (repeat' (first | (simp only [wp, extractV, exists_eq_left', if_true, if_false, ite_true, ite_false, reduceIte, Nat.reduceAdd, Nat.reduceLT, Nat.reduceLeDiff, Nat.reduceEqDiff, nltF hlt, A.at hc2 hz2, lw]) | (with_reducible refine Run.gC ?_ ?_ <;> intro hb <;> try simp only [hb]) | (with_reducible refine Run.gG ?_ ?_ <;> intro hb <;> try simp only [hb]) | (with_reducible refine Run.gQ ?_ ?_ <;> intro hb <;> try simp only [hb])))
  generalize eL1 : L0 ++ (s.parts.zip s.homes).flatMap (fun x => partL x.1 x.2) = L1 at A
  have nL1 : L1.length = 1 + (partsL s.parts s.homes).length := by rw [← eL1, List.length_append, n00]; rfl

  -- windows
  refine Run.loop (N := s.wins.length) (fun k st H => ∃ y, st = [y, iV k] ∧ Ac H2 y (L1 ++ (s.wins.take k).map (fun w => lineL (winW w))) H) ⟨_, rfl, by simpa using A⟩ ?_
  clear hlt
  rintro k st K hk ⟨y, rfl, A⟩
  simp only [ferry_text_Print_l2]
  have rK := ScRf r2 A.fr
  by_cases hlt : k < s.wins.length
  · obtain ⟨px, hix, hpl, _⟩ := rK.w.idx (k := .i64) (i := k) (by rw [List.length_map]; exact hlt)
    rw [map_get hlt] at hpl
    have fl := A.fl
    obtain ⟨w1, w2, w3⟩ := hN.w _ (List.getElem_mem hlt)
    obtain ⟨r0, r1, r2'⟩ := win_at s.wins[k]
    have e3 : (wnR s.wins[k]).length = 3 := rfl
    have t3 : (wnR s.wins[k]).take 3 = wnR s.wins[k] := rfl
    have ld : ∀ Q, Run (loadN 3 px) K Q ↔ Q (.agg (wnR s.wins[k])) K := fun Q => by rw [Run.loadNAt hpl (by rw [e3]; decide), List.drop_zero, t3]
    have ch : (if (s.wins[k].p == -1) = true then bs wSnap else bs (Go.Lib.itoa s.wins[k].p)) = bs (if s.wins[k].p = -1 then wSnap else Go.Lib.itoa s.wins[k].p) := by
      by_cases h : s.wins[k].p = -1
      · rw [if_pos (beq_iff_eq.2 h), if_pos h]
      · rw [if_neg (by simpa using h), if_neg h]
    have rw' : (⟨#[119, 105, 110, 100, 111, 119]⟩ : ByteArray) = bs wWin := rfl
    have rs' : (⟨#[115, 110, 97, 112]⟩ : ByteArray) = bs wSnap := rfl
    have hbb : ∀ w ∈ winW s.wins[k], w.length ≤ 20 := by
      have := itoa_le w1
      have := itoa_le w2
      have := itoa_le w3
      intro w hw
      simp only [winW, List.mem_cons, List.not_mem_nil, or_false] at hw
      rcases hw with rfl | rfl | rfl | rfl
      · decide
      · split
        · decide
        · assumption
      · assumption
      · assumption
    have hll := small_line ⟨hbb, by simp [winW], by simp [winW]⟩
    (repeat' (first | (simp only [wp, extractV, exists_eq_left', if_true, if_false, ite_true, ite_false, reduceIte, Nat.reduceAdd, Nat.reduceLT, Nat.reduceLeDiff, Nat.reduceEqDiff, nltT hlt, hix, ld, fl, e3, t3, r0, r1, r2', num_spec hG (n + 3) w1, num_spec hG (n + 3) w2, num_spec hG (n + 3) w3, choice_spec (n + 4), rw', rs', ch, Run.slice]) | (with_reducible refine Run.gC ?_ ?_ <;> intro hb <;> try simp only [hb]) | (with_reducible refine Run.gG ?_ ?_ <;> intro hb <;> try simp only [hb]) | (with_reducible refine Run.gQ ?_ ?_ <;> intro hb <;> try simp only [hb])))
    refine ⟨(winW s.wins[k]).map stB, rfl, ?_⟩
    refine qline_run (n + 4) (fun l hl => by simp [visB, Heap.add_next, Heap.set_next, Heap.q_next, Heap.empty_next] at hl ⊢; omega) (rd_new _ (winW s.wins[k])) (by simp [winW]) (by rw [hr]; simp [winW]) (by omega) fun H5 f5 => ?_
    have n5 : K.next + 2 ≤ H5.next := f5.next
    have fH : Frame K H5 (fun _ => False) := ((((((Frame.add _ _).st (Nat.le_refl _) _).tr (Frame.q _ _)).tr (Frame.q _ _)).tr (Frame.q _ _)).tr (Frame.q _ _)).tr ((Frame.add _ _).tr f5)
    (repeat' (first | (simp only [wp, extractV, exists_eq_left', if_true, if_false, ite_true, ite_false, reduceIte, Nat.reduceAdd, Nat.reduceLT, Nat.reduceLeDiff, Nat.reduceEqDiff]) | (with_reducible refine Run.gC ?_ ?_ <;> intro hb <;> try simp only [hb]) | (with_reducible refine Run.gG ?_ ?_ <;> intro hb <;> try simp only [hb]) | (with_reducible refine Run.gQ ?_ ?_ <;> intro hb <;> try simp only [hb])))
    refine ⟨[stB (lineL (winW s.wins[k]))], rfl, ?_⟩
    refine (A.keep fH).tapp (fun l hl => by simp [visB, Heap.add_next, Heap.set_next, Heap.q_next, Heap.empty_next] at hl ⊢; omega) (by simp only [List.length_append, List.length_map, List.length_take, List.length_cons, List.length_nil]; omega) fun y' H4 A4 => ?_
    (repeat' (first | (simp only [wp, extractV, exists_eq_left', if_true, if_false, ite_true, ite_false, reduceIte, Nat.reduceAdd, Nat.reduceLT, Nat.reduceLeDiff, Nat.reduceEqDiff, nadd hlt (show s.wins.length ≤ 9223372036854775807 by omega)]) | (with_reducible refine Run.gC ?_ ?_ <;> intro hb <;> try simp only [hb]) | (with_reducible refine Run.gG ?_ ?_ <;> intro hb <;> try simp only [hb]) | (with_reducible refine Run.gQ ?_ ?_ <;> intro hb <;> try simp only [hb])))
    refine ⟨hlt, y', rfl, ?_⟩
    rw [List.take_succ_eq_append_getElem hlt, List.map_append, ← List.append_assoc]
    exact A4
  have hk0 : k = s.wins.length := by omega
  subst hk0
  rw [List.take_length] at A
  (repeat' (first | (simp only [wp, extractV, exists_eq_left', if_true, if_false, ite_true, ite_false, reduceIte, Nat.reduceAdd, Nat.reduceLT, Nat.reduceLeDiff, Nat.reduceEqDiff, nltF hlt, A.at hc2 hz2, lk]) | (with_reducible refine Run.gC ?_ ?_ <;> intro hb <;> try simp only [hb]) | (with_reducible refine Run.gG ?_ ?_ <;> intro hb <;> try simp only [hb]) | (with_reducible refine Run.gQ ?_ ?_ <;> intro hb <;> try simp only [hb])))
  generalize eL2 : L1 ++ s.wins.map (fun w => lineL (winW w)) = L2 at A
  have nL2 : L2.length = L1.length + s.wins.length := by rw [← eL2, List.length_append, List.length_map]

  -- links
  refine Run.loop (N := s.links.length) (fun k st H => ∃ y, st = [y, iV k] ∧ Ac H2 y (L2 ++ (s.links.take k).map (fun q => lineL (linkW q))) H) ⟨_, rfl, by simpa using A⟩ ?_
  clear hlt
  rintro k st K hk ⟨y, rfl, A⟩
  simp only [ferry_text_Print_l3]
  have rK := ScRf r2 A.fr
  by_cases hlt : k < s.links.length
  · obtain ⟨px, hix, hpl, _⟩ := rK.k.idx (k := .i64) (i := k) (by rw [List.length_map]; exact hlt)
    rw [map_get hlt] at hpl
    have fl := A.fl
    have hq := hN.k _ (List.getElem_mem hlt)
    have q0 : (q4R s.links[k])[0]? = some (.int .i64 s.links[k].a) := rfl
    have q1 : (q4R s.links[k])[1]? = some (.int .i64 s.links[k].b) := rfl
    have q2 : (q4R s.links[k])[2]? = some (.int .i64 s.links[k].c) := rfl
    have q3 : (q4R s.links[k])[3]? = some (.int .i64 s.links[k].d) := rfl
    have e4 : (q4R s.links[k]).length = 4 := rfl
    have t4 : (q4R s.links[k]).take 4 = q4R s.links[k] := rfl
    have ld : ∀ Q, Run (loadN 4 px) K Q ↔ Q (.agg (q4R s.links[k])) K := fun Q => by rw [Run.loadNAt hpl (by rw [e4]; decide), List.drop_zero, t4]
    have i0 : inR s.links[k].a := hq 0
    have i1 : inR s.links[k].b := hq 1
    have i2 : inR s.links[k].c := hq 2
    have i3 : inR s.links[k].d := hq 3
    have rl : (⟨#[108, 105, 110, 107]⟩ : ByteArray) = bs wLink := rfl
    have hbb : ∀ w ∈ linkW s.links[k], w.length ≤ 20 := by
      have := itoa_le i0
      have := itoa_le i1
      have := itoa_le i2
      have := itoa_le i3
      intro w hw
      simp only [linkW, List.mem_cons, List.not_mem_nil, or_false] at hw
      rcases hw with rfl | rfl | rfl | rfl | rfl
      · decide
      · assumption
      · assumption
      · assumption
      · assumption
    have e5 : (linkW s.links[k]).length = 5 := rfl
    have hll := lineL_len hbb
    rw [e5] at hll
    (repeat' (first | (simp only [wp, extractV, exists_eq_left', if_true, if_false, ite_true, ite_false, reduceIte, Nat.reduceAdd, Nat.reduceLT, Nat.reduceLeDiff, Nat.reduceEqDiff, nltT hlt, hix, ld, fl, e4, t4, q0, q1, q2, q3, num_spec hG (n + 3) i0, num_spec hG (n + 3) i1, num_spec hG (n + 3) i2, num_spec hG (n + 3) i3, rl, Run.slice]) | (with_reducible refine Run.gC ?_ ?_ <;> intro hb <;> try simp only [hb]) | (with_reducible refine Run.gG ?_ ?_ <;> intro hb <;> try simp only [hb]) | (with_reducible refine Run.gQ ?_ ?_ <;> intro hb <;> try simp only [hb])))
    refine ⟨(linkW s.links[k]).map stB, rfl, ?_⟩
    refine qline_run (n + 4) (fun l hl => by simp [visB, Heap.add_next, Heap.set_next, Heap.q_next, Heap.empty_next] at hl ⊢; omega) (rd_new _ (linkW s.links[k])) (by simp [linkW]) (by rw [hr]; simp [linkW]) (by omega) fun H5 f5 => ?_
    have n5 : K.next + 2 ≤ H5.next := f5.next
    have fH : Frame K H5 (fun _ => False) := ((((((Frame.add _ _).st (Nat.le_refl _) _).tr (Frame.q _ _)).tr (Frame.q _ _)).tr (Frame.q _ _)).tr (Frame.q _ _)).tr ((Frame.add _ _).tr f5)
    (repeat' (first | (simp only [wp, extractV, exists_eq_left', if_true, if_false, ite_true, ite_false, reduceIte, Nat.reduceAdd, Nat.reduceLT, Nat.reduceLeDiff, Nat.reduceEqDiff]) | (with_reducible refine Run.gC ?_ ?_ <;> intro hb <;> try simp only [hb]) | (with_reducible refine Run.gG ?_ ?_ <;> intro hb <;> try simp only [hb]) | (with_reducible refine Run.gQ ?_ ?_ <;> intro hb <;> try simp only [hb])))
    refine ⟨[stB (lineL (linkW s.links[k]))], rfl, ?_⟩
    refine (A.keep fH).tapp (fun l hl => by simp [visB, Heap.add_next, Heap.set_next, Heap.q_next, Heap.empty_next] at hl ⊢; omega) (by simp only [List.length_append, List.length_map, List.length_take, List.length_cons, List.length_nil]; omega) fun y' H4 A4 => ?_
    (repeat' (first | (simp only [wp, extractV, exists_eq_left', if_true, if_false, ite_true, ite_false, reduceIte, Nat.reduceAdd, Nat.reduceLT, Nat.reduceLeDiff, Nat.reduceEqDiff, nadd hlt (show s.links.length ≤ 9223372036854775807 by omega)]) | (with_reducible refine Run.gC ?_ ?_ <;> intro hb <;> try simp only [hb]) | (with_reducible refine Run.gG ?_ ?_ <;> intro hb <;> try simp only [hb]) | (with_reducible refine Run.gQ ?_ ?_ <;> intro hb <;> try simp only [hb])))
    refine ⟨hlt, y', rfl, ?_⟩
    rw [List.take_succ_eq_append_getElem hlt, List.map_append, ← List.append_assoc]
    exact A4
  have hk0 : k = s.links.length := by omega
  subst hk0
  rw [List.take_length] at A
  (repeat' (first | (simp only [wp, extractV, exists_eq_left', if_true, if_false, ite_true, ite_false, reduceIte, Nat.reduceAdd, Nat.reduceLT, Nat.reduceLeDiff, Nat.reduceEqDiff, nltF hlt, A.at hb2 hz1, li]) | (with_reducible refine Run.gC ?_ ?_ <;> intro hb <;> try simp only [hb]) | (with_reducible refine Run.gG ?_ ?_ <;> intro hb <;> try simp only [hb]) | (with_reducible refine Run.gQ ?_ ?_ <;> intro hb <;> try simp only [hb])))
  generalize eL3 : L2 ++ s.links.map (fun q => lineL (linkW q)) = L3 at A
  have nL3 : L3.length = L2.length + s.links.length := by rw [← eL3, List.length_append, List.length_map]

  -- inputs
  refine Run.loop (N := s.ins.length) (fun k st H => ∃ y, st = [y, iV k] ∧ Ac H2 y (L3 ++ (s.ins.take k).map (fun n => lineL (inpW n))) H) ⟨_, rfl, by simpa using A⟩ ?_
  clear hlt
  rintro k st K hk ⟨y, rfl, A⟩
  simp only [ferry_text_Print_l4]
  have rK := ScRf r2 A.fr
  by_cases hlt : k < s.ins.length
  · obtain ⟨px, hix, hpl, _⟩ := rK.i.idx (k := .i64) (i := k) (by rw [List.length_map]; exact hlt)
    rw [map_get hlt] at hpl
    have fl := A.fl
    obtain ⟨i0, i1, i2, hd⟩ := hN.i _ (List.getElem_mem hlt)
    have hd2 := dataL_len s.ins[k].d.data.toList
    have eg : inpR s.ins[k] = [iV s.ins[k].p, iV s.ins[k].f, iV s.ins[k].q, .str (bs s.ins[k].d.data.toList)] := by rw [bs_toList]; rfl
    rw [eg] at hpl
    have ld : ∀ Q, Run (loadN 4 px) K Q ↔ Q (.agg [iV s.ins[k].p, iV s.ins[k].f, iV s.ins[k].q, .str (bs s.ins[k].d.data.toList)]) K := fun Q => by rw [Run.loadNAt hpl (by exact Nat.le_refl 4)]; rfl
    have ri : (⟨#[105, 110, 112, 117, 116]⟩ : ByteArray) = bs wInp := rfl
    have hbb : ∀ w ∈ inpW s.ins[k], w.length ≤ 2097153 := by
      have := itoa_le i0
      have := itoa_le i1
      have := itoa_le i2
      intro w hw
      simp only [inpW, List.mem_cons, List.not_mem_nil, or_false] at hw
      rcases hw with rfl | rfl | rfl | rfl | rfl
      · decide
      · omega
      · omega
      · omega
      · omega
    have e5 : (inpW s.ins[k]).length = 5 := rfl
    have hll := lineL_len hbb
    rw [e5] at hll
    (repeat' (first | (simp only [wp, extractV, exists_eq_left', if_true, if_false, ite_true, ite_false, reduceIte, Nat.reduceAdd, Nat.reduceLT, Nat.reduceLeDiff, Nat.reduceEqDiff, nltT hlt, hix, ld, fl, num_spec hG (n + 3) i0, num_spec hG (n + 3) i1, num_spec hG (n + 3) i2, data_spec (n + 3) (l := s.ins[k].d.data.toList) (by omega), ri, Run.slice]) | (with_reducible refine Run.gC ?_ ?_ <;> intro hb <;> try simp only [hb]) | (with_reducible refine Run.gG ?_ ?_ <;> intro hb <;> try simp only [hb]) | (with_reducible refine Run.gQ ?_ ?_ <;> intro hb <;> try simp only [hb])))
    refine ⟨(inpW s.ins[k]).map stB, rfl, ?_⟩
    refine qline_run (n + 4) (fun l hl => by simp [visB, Heap.add_next, Heap.set_next, Heap.q_next, Heap.empty_next] at hl ⊢; omega) (rd_new _ (inpW s.ins[k])) (by simp [inpW]) (by rw [hr]; simp [inpW]) (by omega) fun H5 f5 => ?_
    have n5 : K.next + 2 ≤ H5.next := f5.next
    have fH : Frame K H5 (fun _ => False) := ((((((Frame.add _ _).st (Nat.le_refl _) _).tr (Frame.q _ _)).tr (Frame.q _ _)).tr (Frame.q _ _)).tr (Frame.q _ _)).tr ((Frame.add _ _).tr f5)
    (repeat' (first | (simp only [wp, extractV, exists_eq_left', if_true, if_false, ite_true, ite_false, reduceIte, Nat.reduceAdd, Nat.reduceLT, Nat.reduceLeDiff, Nat.reduceEqDiff]) | (with_reducible refine Run.gC ?_ ?_ <;> intro hb <;> try simp only [hb]) | (with_reducible refine Run.gG ?_ ?_ <;> intro hb <;> try simp only [hb]) | (with_reducible refine Run.gQ ?_ ?_ <;> intro hb <;> try simp only [hb])))
    refine ⟨[stB (lineL (inpW s.ins[k]))], rfl, ?_⟩
    refine (A.keep fH).tapp (fun l hl => by simp [visB, Heap.add_next, Heap.set_next, Heap.q_next, Heap.empty_next] at hl ⊢; omega) (by simp only [List.length_append, List.length_map, List.length_take, List.length_cons, List.length_nil]; omega) fun y' H4 A4 => ?_
    (repeat' (first | (simp only [wp, extractV, exists_eq_left', if_true, if_false, ite_true, ite_false, reduceIte, Nat.reduceAdd, Nat.reduceLT, Nat.reduceLeDiff, Nat.reduceEqDiff, nadd hlt (show s.ins.length ≤ 9223372036854775807 by omega)]) | (with_reducible refine Run.gC ?_ ?_ <;> intro hb <;> try simp only [hb]) | (with_reducible refine Run.gG ?_ ?_ <;> intro hb <;> try simp only [hb]) | (with_reducible refine Run.gQ ?_ ?_ <;> intro hb <;> try simp only [hb])))
    refine ⟨hlt, y', rfl, ?_⟩
    rw [List.take_succ_eq_append_getElem hlt, List.map_append, ← List.append_assoc]
    exact A4
  have hk0 : k = s.ins.length := by omega
  subst hk0
  rw [List.take_length] at A
  (repeat' (first | (simp only [wp, extractV, exists_eq_left', if_true, if_false, ite_true, ite_false, reduceIte, Nat.reduceAdd, Nat.reduceLT, Nat.reduceLeDiff, Nat.reduceEqDiff, nltF hlt, A.at hb2 hz1, lo]) | (with_reducible refine Run.gC ?_ ?_ <;> intro hb <;> try simp only [hb]) | (with_reducible refine Run.gG ?_ ?_ <;> intro hb <;> try simp only [hb]) | (with_reducible refine Run.gQ ?_ ?_ <;> intro hb <;> try simp only [hb])))
  generalize eL4 : L3 ++ s.ins.map (fun n => lineL (inpW n)) = L4 at A
  have nL4 : L4.length = L3.length + s.ins.length := by rw [← eL4, List.length_append, List.length_map]

  -- ops
  refine Run.loop (N := s.ops.length) (fun k st H => ∃ y, st = [y, iV k] ∧ Ac H2 y (L4 ++ (s.ops.take k).map (opL)) H) ⟨_, rfl, by simpa using A⟩ ?_
  clear hlt
  rintro k st K hk ⟨y, rfl, A⟩
  simp only [ferry_text_Print_l5]
  have rK := ScRf r2 A.fr
  by_cases hlt : k < s.ops.length
  · obtain ⟨px, hix, hpl, _⟩ := rK.o.idx (k := .i64) (i := k) (by rw [List.length_map]; exact hlt)
    rw [map_get hlt] at hpl
    have fl := A.fl
    have hq := hN.o _ (List.getElem_mem hlt)
    have e4 : (q4R s.ops[k]).length = 4 := rfl
    have t4 : (q4R s.ops[k]).take 4 = q4R s.ops[k] := rfl
    have ld : ∀ Q, Run (loadN 4 px) K Q ↔ Q (.agg (q4R s.ops[k])) K := fun Q => by rw [Run.loadNAt hpl (by rw [e4]; decide), List.drop_zero, t4]
    (repeat' (first | (simp only [wp, extractV, exists_eq_left', if_true, if_false, ite_true, ite_false, reduceIte, Nat.reduceAdd, Nat.reduceLT, Nat.reduceLeDiff, Nat.reduceEqDiff, nltT hlt, hix, ld, fl, e4, t4, printOp_spec hG (n + 1) hq, Run.slice]) | (with_reducible refine Run.gC ?_ ?_ <;> intro hb <;> try simp only [hb]) | (with_reducible refine Run.gG ?_ ?_ <;> intro hb <;> try simp only [hb]) | (with_reducible refine Run.gQ ?_ ?_ <;> intro hb <;> try simp only [hb])))
    refine ⟨[stB (opL s.ops[k])], rfl, ?_⟩
    have fH : Frame K ((K.add ⟨4, [[.int .i64 0, .int .i64 0, .int .i64 0, .int .i64 0]]⟩).set K.next ⟨4, [q4R s.ops[k]]⟩) (fun _ => False) := (Frame.add _ _).st (Nat.le_refl _) _
    refine (A.keep fH).app (by simp only [List.length_append, List.length_map, List.length_take, List.length_cons, List.length_nil]; omega) fun y' H4 A4 => ?_
    (repeat' (first | (simp only [wp, extractV, exists_eq_left', if_true, if_false, ite_true, ite_false, reduceIte, Nat.reduceAdd, Nat.reduceLT, Nat.reduceLeDiff, Nat.reduceEqDiff, nadd hlt (show s.ops.length ≤ 9223372036854775807 by omega)]) | (with_reducible refine Run.gC ?_ ?_ <;> intro hb <;> try simp only [hb]) | (with_reducible refine Run.gG ?_ ?_ <;> intro hb <;> try simp only [hb]) | (with_reducible refine Run.gQ ?_ ?_ <;> intro hb <;> try simp only [hb])))
    refine ⟨hlt, y', rfl, ?_⟩
    rw [List.take_succ_eq_append_getElem hlt, List.map_append, ← List.append_assoc]
    exact A4
  have hk0 : k = s.ops.length := by omega
  subst hk0
  rw [List.take_length] at A
  have eAll : printL s = L4 ++ s.ops.map opL := by rw [← eL4, ← eL3, ← eL2, ← eL1, ← eL0]; rfl
  rw [← eAll] at A
  have hne : printL s ≠ [] := fun e => by have := congrArg List.length e; rw [eP, List.length_nil] at this; omega
  have hdoc := hN.doc
  have hj := join_doc hne
  have hjl := congrArg List.length hj
  rw [List.length_append, nl_len] at hjl
  (repeat' (first | (simp only [wp, extractV, exists_eq_left', if_true, if_false, ite_true, ite_false, reduceIte, Nat.reduceAdd, Nat.reduceLT, Nat.reduceLeDiff, Nat.reduceEqDiff, nltF hlt, nl_bs]) | (with_reducible refine Run.gC ?_ ?_ <;> intro hb <;> try simp only [hb]) | (with_reducible refine Run.gG ?_ ?_ <;> intro hb <;> try simp only [hb]) | (with_reducible refine Run.gQ ?_ ?_ <;> intro hb <;> try simp only [hb])))
  refine join_seen (n + 5) A.o.rd hne (by omega) (by omega) ?_
  (repeat' (first | (simp only [wp, extractV, exists_eq_left', if_true, if_false, ite_true, ite_false, reduceIte, Nat.reduceAdd, Nat.reduceLT, Nat.reduceLeDiff, Nat.reduceEqDiff, add_bs (x := Go.Lib.join (printL s) nlc) (y := nlc) (by rw [nl_len]; omega), hj]) | (with_reducible refine Run.gC ?_ ?_ <;> intro hb <;> try simp only [hb]) | (with_reducible refine Run.gG ?_ ?_ <;> intro hb <;> try simp only [hb]) | (with_reducible refine Run.gQ ?_ ?_ <;> intro hb <;> try simp only [hb])))
  exact ⟨(f0.tr (f1.tr fA)).tr A.fr, .inl hc⟩
end Go.Fv.Tr
