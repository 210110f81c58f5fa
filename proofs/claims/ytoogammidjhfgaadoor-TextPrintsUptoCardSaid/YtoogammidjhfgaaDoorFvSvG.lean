/-
  A script's text: the document's. By an AI agent; no person has read it.
-/
import Derived.Test.YtoogammidjhfgaaDoorFvSvF
set_option linter.unusedVariables false
set_option linter.unusedSimpArgs false
set_option linter.unusedSectionVars false
/-! A script's text: the document's. -/
namespace Go.Fv
open Go
section
variable {H : Heap}
/-- A step that sees all that there is, and writes where it may. -/
theorem Run.tMod {v : Nat → Bool} {m : M V} {P Q : V → Heap → Prop} {p : Nat → Prop} (hv : ∀ l, l < H.next → v l = true) (hf : H.floor = 0) (hp : ∀ l, l < H.next → p l → (H.blk l).isSome = true)
    (h : ∀ K : Heap, K.next = H.next → K.floor = 0 → (∀ l, l < H.next → K.blk l = H.blk l) → Run m K fun y K' => Frame K K' p ∧ P y K')
    (q : ∀ y K' H', P y K' → Frame H H' p → H'.blk = K'.blk → H'.next = K'.next → H'.floor = 0 → Q y H') : Run (trun v m) H Q := by
  refine Run.trunI ((h ⟨fun l => if v l then H.blk l else none, H.next, H.floor⟩ rfl hf (fun l hl => by simp only [hv l hl, if_true])).mono fun y K' ⟨f, r⟩ => ?_)
  have e : ∀ l, l < H.next → ¬ p l → K'.blk l = H.blk l := fun l hl hn => by rw [f.old l hl hn]; simp only [hv l hl, if_true]
  have hb : (fun l => if l < H.next then (if v l && decide (H.floor ≤ l) && (H.blk l).isSome then K'.blk l else H.blk l) else K'.blk l) = K'.blk := by
    funext l
    show (if l < H.next then (if v l && decide (H.floor ≤ l) && (H.blk l).isSome then K'.blk l else H.blk l) else K'.blk l) = K'.blk l
    by_cases hl : l < H.next
    · rw [if_pos hl]
      split
      · rfl
      · rename_i hn
        refine (e l hl fun hpl => hn ?_).symm
        rw [hv l hl, hp l hl hpl, hf]
        simp
    · rw [if_neg hl]
  refine q y K' _ r ⟨f.next, rfl, fun l hl hn => ?_⟩ hb rfl hf
  show (if l < H.next then (if v l && decide (H.floor ≤ l) && (H.blk l).isSome then K'.blk l else H.blk l) else K'.blk l) = H.blk l
  exact (congrFun hb l).trans (e l hl hn)
theorem Own.same {K H : Heap} {x : V} {sz : Nat} {rows : List (List V)} (h : Own K x sz rows) (hb : H.blk = K.blk) (hn : H.next = K.next) (hf : H.floor = 0) : Own H x sz rows := by
  rcases h with h | ⟨l, n, c, ex, b, rfl, h1, h2, h3, h4⟩
  · exact .inl h
  · exact .inr ⟨l, n, c, ex, b, rfl, by rw [hb]; exact h1, by rw [hf]; exact Nat.zero_le _, by rw [hn]; exact h3, h4⟩
theorem Own.in_ {K H : Heap} {x : V} {sz : Nat} {rows : List (List V)} (h : Own H x sz rows) (hn : K.next = H.next) (hf : K.floor = 0) (hb : ∀ l, l < H.next → K.blk l = H.blk l) : Own K x sz rows := by
  rcases h with h | ⟨l, n, c, ex, b, rfl, h1, h2, h3, h4⟩
  · exact .inl h
  · exact .inr ⟨l, n, c, ex, b, rfl, (hb l h3).trans h1, by rw [hf]; exact Nat.zero_le _, by rw [hn]; exact h3, h4⟩
theorem Own.some {H : Heap} {x : V} {sz : Nat} {rows : List (List V)} (h : Own H x sz rows) {l : Nat} (hl : loc x = some l) : (H.blk l).isSome = true := by
  rcases h with ⟨rfl | rfl, _⟩ | ⟨l', n, c, ex, b, rfl, h1, _⟩
  · cases hl
  · cases hl
  · cases hl; rw [h1]; rfl
end
end Go.Fv
namespace Go.Fv.Tr
open Go Go.Fv Go.Proofs
set_option linter.unusedSimpArgs false
set_option linter.unusedVariables false
variable {G : Nat → Option (List V)}

theorem sum8 {w a s b r c u d t : List UInt8} (h : w.length + a.length + s.length + b.length + r.length + c.length + u.length + d.length + t.length ≤ room) :
    arithV .add (.str (bs w)) (.str (bs a)) = some (.str (bs (w ++ a))) ∧ arithV .add (.str (bs (w ++ a))) (.str (bs s)) = some (.str (bs (w ++ a ++ s))) ∧ arithV .add (.str (bs (w ++ a ++ s))) (.str (bs b)) = some (.str (bs (w ++ a ++ s ++ b))) ∧
    arithV .add (.str (bs (w ++ a ++ s ++ b))) (.str (bs r)) = some (.str (bs (w ++ a ++ s ++ b ++ r))) ∧ arithV .add (.str (bs (w ++ a ++ s ++ b ++ r))) (.str (bs c)) = some (.str (bs (w ++ a ++ s ++ b ++ r ++ c))) ∧
    arithV .add (.str (bs (w ++ a ++ s ++ b ++ r ++ c))) (.str (bs u)) = some (.str (bs (w ++ a ++ s ++ b ++ r ++ c ++ u))) ∧ arithV .add (.str (bs (w ++ a ++ s ++ b ++ r ++ c ++ u))) (.str (bs d)) = some (.str (bs (w ++ a ++ s ++ b ++ r ++ c ++ u ++ d))) ∧
    arithV .add (.str (bs (w ++ a ++ s ++ b ++ r ++ c ++ u ++ d))) (.str (bs t)) = some (.str (bs (w ++ a ++ s ++ b ++ r ++ c ++ u ++ d ++ t))) := by
  refine ⟨add_bs ?_, add_bs ?_, add_bs ?_, add_bs ?_, add_bs ?_, add_bs ?_, add_bs ?_, add_bs ?_⟩ <;> first | omega | (simp only [List.length_append]; omega)

def sCfg : List UInt8 := [99, 111, 110, 102, 105, 103, 32]
def sWin : List UInt8 := [119, 105, 110, 100, 111, 119, 32]
def sLink : List UInt8 := [108, 105, 110, 107, 32]
def sInp : List UInt8 := [105, 110, 112, 117, 116, 32]
theorem s_lens2 : sCfg.length = 7 ∧ sWin.length = 7 ∧ sLink.length = 5 ∧ sInp.length = 6 := ⟨rfl, rfl, rfl, rfl⟩
theorem line_cfg (s : Sc) : lineL (cfgW s) ++ nlc = sCfg ++ Go.Lib.itoa s.ticks ++ spc ++ Go.Lib.itoa s.tries ++ nlc := by simp [lineL, cfgW, Go.Lib.join_cons, Go.Lib.joinTail, spc, sCfg, wCfg]
theorem line_win (w : Wn) : lineL (winW w) ++ nlc = sWin ++ (if w.p = -1 then wSnap else Go.Lib.itoa w.p) ++ spc ++ Go.Lib.itoa w.s ++ spc ++ Go.Lib.itoa w.l ++ nlc := by simp [lineL, winW, Go.Lib.join_cons, Go.Lib.joinTail, spc, sWin, wWin]
theorem line_link (q : Q4) : lineL (linkW q) ++ nlc = sLink ++ Go.Lib.itoa q.a ++ spc ++ Go.Lib.itoa q.b ++ spc ++ Go.Lib.itoa q.c ++ spc ++ Go.Lib.itoa q.d ++ nlc := by simp [lineL, linkW, Go.Lib.join_cons, Go.Lib.joinTail, spc, sLink, wLink]
theorem line_inp (n : In) : lineL (inpW n) ++ nlc = sInp ++ Go.Lib.itoa n.p ++ spc ++ Go.Lib.itoa n.f ++ spc ++ Go.Lib.itoa n.q ++ spc ++ dataL n.d.data.toList ++ nlc := by simp [lineL, inpW, Go.Lib.join_cons, Go.Lib.joinTail, spc, sInp, wInp]

set_option maxRecDepth 20000 in
theorem refPrint_spec (n : Nat) {l : List V} {s : Sc} {ps hs ws ks is os : V} {rows : List (List V)} (h : ScS l s ps hs ws ks is os rows) (hN : ScN s) :
    callV (cfg G) (sem (cfg G) (n + 5)) 33 [.agg l] = M.ret (.str (bs (docL (printL s)))) := by
  refine callV_pure0 rfl (by simp only [List.all_cons, List.all_nil, h.closed]; rfl) rfl ?_
  obtain ⟨rfl, hp, hh, hw, hk', hi, ho, hlen, hrow, _, _⟩ := h
  rw [ferry_ferryref25_Print_eq]
  simp only [ferry_ferryref25_Print]
  have hr : room = 140737488355328 := rfl
  have l1 := hN.l1
  have l2 := hN.l2
  have l3 := hN.l3
  have l4 := hN.l4
  have l5 := hN.l5
  have hhl := hN.len
  have lp := hp.len
  have lw := hw.len
  have lk := hk'.len
  have li := hi.len
  have lo := ho.len
  rw [hlen] at lp
  rw [List.length_map] at lw lk li lo
  have hD := hN.doc
  have hx : ∀ m, loc V.nils = some m → m < Heap.empty.next := fun m e => by cases e
  generalize hF2 : (fun w : Wn => lineL (winW w)) = F2
  generalize hF3 : (fun q : Q4 => lineL (linkW q)) = F3
  generalize hF4 : (fun q : In => lineL (inpW q)) = F4
  have eP : printL s = [lineL (cfgW s)] ++ partsL s.parts s.homes ++ s.wins.map F2 ++ s.links.map F3 ++ s.ins.map F4 ++ s.ops.map opL := by rw [← hF2, ← hF3, ← hF4]; rfl
  have eD : (docL (printL s)).length = (lineL (cfgW s)).length + 1 + (docL (partsL s.parts s.homes)).length + (docL (s.wins.map F2)).length + (docL (s.links.map F3)).length + (docL (s.ins.map F4)).length + (docL (s.ops.map opL)).length := by
    rw [eP]; simp only [docL_app, docL_one, List.length_append, nl_len]
  have hl0 := congrArg List.length (line_cfg s)
  simp only [List.length_append, nl_len, spc_len, s_lens2.1] at hl0
  obtain ⟨c1, c2, c3, c4⟩ := sum4 (w := sCfg) (a := Go.Lib.itoa s.ticks) (s := spc) (b := Go.Lib.itoa s.tries) (t := nlc) (by rw [nl_len, spc_len, s_lens2.1]; omega)
  have n1 := number_spec (G := G) (n + 3) hN.t
  have n2 := number_spec (G := G) (n + 3) hN.r
  rw [itoaB_bs] at n1 n2
  have rc : (⟨#[99, 111, 110, 102, 105, 103, 32]⟩ : ByteArray) = bs sCfg := rfl
  (repeat' (first | (simp only [wp, extractV, exists_eq_left', if_true, if_false, ite_true, ite_false, reduceIte, Nat.reduceAdd, Nat.reduceLT, Nat.reduceLeDiff, Nat.reduceEqDiff, rc, n1, n2, c1, sp_bs, c2, c3, nl_bs, c4, Run.newB']) | (with_reducible refine Run.gC ?_ ?_ <;> intro hb <;> try simp only [hb]) | (with_reducible refine Run.gG ?_ ?_ <;> intro hb <;> try simp only [hb]) | (with_reducible refine Run.gQ ?_ ?_ <;> intro hb <;> try simp only [hb])))
  rw [← line_cfg]
  generalize eA0 : lineL (cfgW s) ++ nlc = A0
  have hA0 : A0.length = (lineL (cfgW s)).length + 1 := by rw [← eA0, List.length_append, nl_len]
  have B0 : ∀ v1 v2, Bc Heap.empty .nils ⟨8, [[iV s.ticks, ps, hs, ws, ks, iV s.tries, is, os]]⟩ (.ref 1 1 0 A0.length A0.length false) A0 ((((Heap.empty.add ⟨8, [[iV s.ticks, ps, hs, ws, ks, iV s.tries, is, os]]⟩).q v1).q v2).add ⟨1, byR A0⟩) := fun v1 v2 => by
    refine ⟨rfl, Nat.le_succ _, rfl, ?_, fun m e => .inr (by cases e; exact Nat.le_refl _), ⟨Nat.zero_le _, rfl, fun m hm => absurd hm (Nat.not_lt_zero _)⟩⟩
    have := Own.new (H := ((Heap.empty.add ⟨8, [[iV s.ticks, ps, hs, ws, ks, iV s.tries, is, os]]⟩).q v1).q v2) (sz := 1) (Nat.zero_le _) (byR A0) false
    rw [byR_len] at this
    exact this
  (repeat' (first | (simp only [wp, extractV, exists_eq_left', if_true, if_false, ite_true, ite_false, reduceIte, Nat.reduceAdd, Nat.reduceLT, Nat.reduceLeDiff, Nat.reduceEqDiff, lp]) | (with_reducible refine Run.gC ?_ ?_ <;> intro hb <;> try simp only [hb]) | (with_reducible refine Run.gG ?_ ?_ <;> intro hb <;> try simp only [hb]) | (with_reducible refine Run.gQ ?_ ?_ <;> intro hb <;> try simp only [hb])))
  -- parts
  refine Run.loop (N := s.parts.length) (fun k st H => ∃ y, st = [y, iV k] ∧ Bc Heap.empty .nils ⟨8, [[iV s.ticks, ps, hs, ws, ks, iV s.tries, is, os]]⟩ y (A0 ++ docL (((s.parts.zip s.homes).take k).flatMap fun x => partL x.1 x.2)) H) ⟨_, rfl, by simpa [docL_nil] using B0 _ _⟩ ?_
  rintro k st H hk ⟨y, rfl, B⟩
  simp only [ferry_ferryref25_Print_l1]
  by_cases hlt : k < s.parts.length
  · have hlr : k < rows.length := by omega
    have hlh : k < s.homes.length := by omega
    have hix := hp.idx (k := .i64) (i := k) hlr
    have hih := hh.idx (k := .i64) (i := k) (by rw [List.length_map]; exact hlh)
    rw [map_get hlh] at hih
    have hR := hrow k hlr
    have hPN := hN.p _ (List.getElem_mem hlt)
    have hHR := hN.h _ (List.getElem_mem hlh)
    generalize eR : rows[k] = row at hix hR
    have r7 : row.length = 7 := by obtain ⟨a, b, c, d, e, _⟩ := hR; rw [e]; rfl
    have t7 : row.take 7 = row := List.take_of_length_le (by omega)
    have q7 : 7 ≤ row.length := by omega
    have fl := B.fl
    have hne : ¬ (0 = H.next) := by have := B.nx; have e : Heap.empty.next = 0 := rfl; omega
    have bb := B.b
    have e0 : Heap.empty.next = 0 := rfl
    rw [e0] at bb
    have ei : (iR s.homes[k])[0]? = some (.int .i64 s.homes[k]) := rfl
    have hstep := flat_step (fun x : Pl × Int => partL x.1 x.2) (l := s.parts.zip s.homes) (k := k) (by rw [List.length_zip]; omega)
    have hA : (A0 ++ docL (((s.parts.zip s.homes).take k).flatMap fun x => partL x.1 x.2)).length + (docL (partL s.parts[k] s.homes[k])).length ≤ room := by
      have hz := zip_take (ps := s.parts) (hs := s.homes) (k := k) hlt hlh
      have hle : (docL (((s.parts.zip s.homes).take (k + 1)).flatMap fun x => partL x.1 x.2)).length ≤ (docL (partsL s.parts s.homes)).length := by
        have h0 : partsL s.parts s.homes = ((s.parts.zip s.homes).take (k + 1)).flatMap (fun x => partL x.1 x.2) ++ ((s.parts.zip s.homes).drop (k + 1)).flatMap (fun x => partL x.1 x.2) := by
          rw [← List.flatMap_append, List.take_append_drop]; rfl
        rw [h0, docL_app, List.length_append]; omega
      rw [hz, docL_app, List.length_append] at hle
      rw [List.length_append]
      omega
    (repeat' (first | (simp only [wp, extractV, exists_eq_left', if_true, if_false, ite_true, ite_false, reduceIte, Nat.reduceAdd, Nat.reduceLT, Nat.reduceLeDiff, Nat.reduceEqDiff, nltT hlt, hix, r7, t7, q7, fl, hne, bb, hih, ei]) | (with_reducible refine Run.gC ?_ ?_ <;> intro hb <;> try simp only [hb]) | (with_reducible refine Run.gG ?_ ?_ <;> intro hb <;> try simp only [hb]) | (with_reducible refine Run.gQ ?_ ?_ <;> intro hb <;> try simp only [hb])))
    have fH : Frame H ((H.add ⟨7, [[.int .i64 0, .bool false, .nils, .nils, .nils, .int .i64 0, .nils]]⟩).set H.next ⟨7, [row]⟩) (fun _ => False) := (Frame.add _ _).st (Nat.le_refl _) _
    have B' := B.keep fH
    generalize hH2 : (H.add ⟨7, [[.int .i64 0, .bool false, .nils, .nils, .nils, .int .i64 0, .nils]]⟩).set H.next ⟨7, [row]⟩ = H2 at fH B'
    have hn2 : H2.next = H.next + 1 := by rw [← hH2]; rfl
    refine Run.tMod (p := fun m => loc y = some m) (P := fun y' K' => Own K' y' 1 (byR (A0 ++ docL (((s.parts.zip s.homes).take k).flatMap fun x => partL x.1 x.2) ++ docL (partL s.parts[k] s.homes[k]))) ∧ ∀ m, loc y' = some m → loc y = some m ∨ H2.next ≤ m)
      (fun l hl => by rw [hn2] at hl; exact by simp [visB, Heap.add_next, Heap.set_next, Heap.q_next, Heap.empty_next] at hl ⊢; omega) B'.fl (fun m _ e => B'.o.some e) (fun K hKn hKf hKb => ?_) fun y' K' H' ⟨o, g⟩ f hb hn hf' => ?_
    · refine (part_run (G := G) (n + 1) hR hPN hHR (B'.o.in_ hKn hKf hKb) hKf hA).mono fun y' K' ⟨o, f, g⟩ => ⟨f, o, fun m e => (g m e).imp id fun h => by omega⟩
    · have B2 : Bc Heap.empty .nils ⟨8, [[iV s.ticks, ps, hs, ws, ks, iV s.tries, is, os]]⟩ y' (A0 ++ docL (((s.parts.zip s.homes).take k).flatMap fun x => partL x.1 x.2) ++ docL (partL s.parts[k] s.homes[k])) H' :=
        B'.grown hx (by rw [← byR_append]; exact o.same hb hn hf') f g
      (repeat' (first | (simp only [wp, extractV, exists_eq_left', if_true, if_false, ite_true, ite_false, reduceIte, Nat.reduceAdd, Nat.reduceLT, Nat.reduceLeDiff, Nat.reduceEqDiff, nadd hlt (show s.parts.length ≤ 9223372036854775807 by omega)]) | (with_reducible refine Run.gC ?_ ?_ <;> intro hb <;> try simp only [hb]) | (with_reducible refine Run.gG ?_ ?_ <;> intro hb <;> try simp only [hb]) | (with_reducible refine Run.gQ ?_ ?_ <;> intro hb <;> try simp only [hb])))
      refine ⟨hlt, y', rfl, ?_⟩
      rw [zip_take hlt hlh, docL_app, ← List.append_assoc]
      exact B2
  have hk0 : k = s.parts.length := by omega
  subst hk0
  rw [zip_all hhl] at B
  have eZ : (s.parts.zip s.homes).flatMap (fun x => partL x.1 x.2) = partsL s.parts s.homes := rfl
  rw [eZ] at B
  have e0 : Heap.empty.next = 0 := rfl
  have bb := B.b
  rw [e0] at bb
  (repeat' (first | (simp only [wp, extractV, exists_eq_left', if_true, if_false, ite_true, ite_false, reduceIte, Nat.reduceAdd, Nat.reduceLT, Nat.reduceLeDiff, Nat.reduceEqDiff, nltF hlt, bb, lw]) | (with_reducible refine Run.gC ?_ ?_ <;> intro hb <;> try simp only [hb]) | (with_reducible refine Run.gG ?_ ?_ <;> intro hb <;> try simp only [hb]) | (with_reducible refine Run.gQ ?_ ?_ <;> intro hb <;> try simp only [hb])))
  generalize eA1 : A0 ++ docL (partsL s.parts s.homes) = A1 at B
  have hA1 : A1.length = A0.length + (docL (partsL s.parts s.homes)).length := by rw [← eA1, List.length_append]
  clear hlt bb
  -- windows
  refine Run.loop (N := s.wins.length) (fun k st H => ∃ y, st = [y, iV k] ∧ Bc Heap.empty .nils ⟨8, [[iV s.ticks, ps, hs, ws, ks, iV s.tries, is, os]]⟩ y (A1 ++ docL ((s.wins.take k).map F2)) H) ⟨_, rfl, by simpa [docL_nil] using B⟩ ?_
  clear B
  rintro k st H hk ⟨y, rfl, B⟩
  simp only [ferry_ferryref25_Print_l2]
  by_cases hlt : k < s.wins.length
  · have hix := hw.idx (k := .i64) (i := k) (by rw [List.length_map]; exact hlt)
    rw [map_get hlt] at hix
    obtain ⟨h0, h1, h2⟩ := hN.w _ (List.getElem_mem hlt)
    have eg : wnR s.wins[k] = [iV s.wins[k].p, iV s.wins[k].s, iV s.wins[k].l] := rfl
    rw [eg] at hix
    have i0 := itoa_le h0
    have i1 := itoa_le h1
    have i2 := itoa_le h2
    have hT := docL_take (f := F2) hlt
    have eF : F2 s.wins[k] = lineL (winW s.wins[k]) := by rw [← hF2]
    have lp := line_win s.wins[k]
    have m0 := number_spec (G := G) (n + 3) h0
    have m1 := number_spec (G := G) (n + 3) h1
    have m2 := number_spec (G := G) (n + 3) h2
    rw [itoaB_bs] at m0 m1 m2
    have rg : (⟨#[119, 105, 110, 100, 111, 119, 32]⟩ : ByteArray) = bs sWin := rfl
    have rs : (⟨#[115, 110, 97, 112]⟩ : ByteArray) = bs wSnap := rfl
    have fl := B.fl
    have fH : Frame H ((H.add ⟨3, [[.int .i64 0, .int .i64 0, .int .i64 0]]⟩).set H.next ⟨3, [[iV s.wins[k].p, iV s.wins[k].s, iV s.wins[k].l]]⟩) (fun _ => False) := (Frame.add _ _).st (Nat.le_refl _) _
    by_cases hm : s.wins[k].p = -1
    · have hb : (s.wins[k].p == -1) = true := beq_iff_eq.2 hm
      rw [show (if s.wins[k].p = -1 then wSnap else Go.Lib.itoa s.wins[k].p) = wSnap from if_pos hm] at lp
      have eL := congrArg List.length lp
      simp only [List.length_append, nl_len, spc_len, s_lens2.2.1] at eL
      have w20 : (wSnap).length ≤ 20 := by decide
      obtain ⟨c1, c2, c3, c4, c5, c6⟩ := sum6 (w := sWin) (a := wSnap) (s := spc) (b := Go.Lib.itoa s.wins[k].s) (r := spc) (c := Go.Lib.itoa s.wins[k].l) (t := nlc) (by rw [nl_len, spc_len, s_lens2.2.1]; omega)
      (repeat' (first | (simp only [wp, extractV, exists_eq_left', if_true, if_false, ite_true, ite_false, reduceIte, Nat.reduceAdd, Nat.reduceLT, Nat.reduceLeDiff, Nat.reduceEqDiff, nltT hlt, hix, fl, m0, m1, m2, hb, rs, rg, c1, sp_bs, c2, c3, c4, c5, nl_bs, c6, ferry_ferryref25_Print_j1]) | (with_reducible refine Run.gC ?_ ?_ <;> intro hb <;> try simp only [hb]) | (with_reducible refine Run.gG ?_ ?_ <;> intro hb <;> try simp only [hb]) | (with_reducible refine Run.gQ ?_ ?_ <;> intro hb <;> try simp only [hb])))
      rw [← lp]
      refine (B.keep ((fH.tr (Frame.q _ _)).tr (Frame.q _ _))).tapp hx (fun l hl => by simp [visB, Heap.add_next, Heap.set_next, Heap.q_next, Heap.empty_next] at hl ⊢; omega) (by rw [eF] at hT; simp only [List.length_append, nl_len]; omega) fun y' H4 B4 => ?_
      (repeat' (first | (simp only [wp, extractV, exists_eq_left', if_true, if_false, ite_true, ite_false, reduceIte, Nat.reduceAdd, Nat.reduceLT, Nat.reduceLeDiff, Nat.reduceEqDiff, nadd hlt (show s.wins.length ≤ 9223372036854775807 by omega)]) | (with_reducible refine Run.gC ?_ ?_ <;> intro hb <;> try simp only [hb]) | (with_reducible refine Run.gG ?_ ?_ <;> intro hb <;> try simp only [hb]) | (with_reducible refine Run.gQ ?_ ?_ <;> intro hb <;> try simp only [hb])))
      refine ⟨hlt, y', rfl, ?_⟩
      rw [List.take_succ_eq_append_getElem hlt, List.map_append, docL_app, List.map_cons, List.map_nil, docL_one, eF, ← List.append_assoc]
      exact B4
    · have hb : (s.wins[k].p == -1) = false := beq_eq_false_iff_ne.2 hm
      rw [show (if s.wins[k].p = -1 then wSnap else Go.Lib.itoa s.wins[k].p) = Go.Lib.itoa s.wins[k].p from if_neg hm] at lp
      have eL := congrArg List.length lp
      simp only [List.length_append, nl_len, spc_len, s_lens2.2.1] at eL
      have w20 : (Go.Lib.itoa s.wins[k].p).length ≤ 20 := i0
      obtain ⟨c1, c2, c3, c4, c5, c6⟩ := sum6 (w := sWin) (a := Go.Lib.itoa s.wins[k].p) (s := spc) (b := Go.Lib.itoa s.wins[k].s) (r := spc) (c := Go.Lib.itoa s.wins[k].l) (t := nlc) (by rw [nl_len, spc_len, s_lens2.2.1]; omega)
      (repeat' (first | (simp only [wp, extractV, exists_eq_left', if_true, if_false, ite_true, ite_false, reduceIte, Nat.reduceAdd, Nat.reduceLT, Nat.reduceLeDiff, Nat.reduceEqDiff, nltT hlt, hix, fl, m0, m1, m2, hb, rs, rg, c1, sp_bs, c2, c3, c4, c5, nl_bs, c6, ferry_ferryref25_Print_j1]) | (with_reducible refine Run.gC ?_ ?_ <;> intro hb <;> try simp only [hb]) | (with_reducible refine Run.gG ?_ ?_ <;> intro hb <;> try simp only [hb]) | (with_reducible refine Run.gQ ?_ ?_ <;> intro hb <;> try simp only [hb])))
      rw [← lp]
      refine (B.keep ((fH.tr (Frame.q _ _)).tr (Frame.q _ _))).tapp hx (fun l hl => by simp [visB, Heap.add_next, Heap.set_next, Heap.q_next, Heap.empty_next] at hl ⊢; omega) (by rw [eF] at hT; simp only [List.length_append, nl_len]; omega) fun y' H4 B4 => ?_
      (repeat' (first | (simp only [wp, extractV, exists_eq_left', if_true, if_false, ite_true, ite_false, reduceIte, Nat.reduceAdd, Nat.reduceLT, Nat.reduceLeDiff, Nat.reduceEqDiff, nadd hlt (show s.wins.length ≤ 9223372036854775807 by omega)]) | (with_reducible refine Run.gC ?_ ?_ <;> intro hb <;> try simp only [hb]) | (with_reducible refine Run.gG ?_ ?_ <;> intro hb <;> try simp only [hb]) | (with_reducible refine Run.gQ ?_ ?_ <;> intro hb <;> try simp only [hb])))
      refine ⟨hlt, y', rfl, ?_⟩
      rw [List.take_succ_eq_append_getElem hlt, List.map_append, docL_app, List.map_cons, List.map_nil, docL_one, eF, ← List.append_assoc]
      exact B4
  have hk0 : k = s.wins.length := by omega
  subst hk0
  rw [List.take_length] at B
  have bb := B.b
  rw [e0] at bb
  (repeat' (first | (simp only [wp, extractV, exists_eq_left', if_true, if_false, ite_true, ite_false, reduceIte, Nat.reduceAdd, Nat.reduceLT, Nat.reduceLeDiff, Nat.reduceEqDiff, nltF hlt, bb, lk]) | (with_reducible refine Run.gC ?_ ?_ <;> intro hb <;> try simp only [hb]) | (with_reducible refine Run.gG ?_ ?_ <;> intro hb <;> try simp only [hb]) | (with_reducible refine Run.gQ ?_ ?_ <;> intro hb <;> try simp only [hb])))
  generalize eA2 : A1 ++ docL (s.wins.map F2) = A2 at B
  have hA2 : A2.length = A1.length + (docL (s.wins.map F2)).length := by rw [← eA2, List.length_append]
  clear hlt bb
  -- links
  refine Run.loop (N := s.links.length) (fun k st H => ∃ y, st = [y, iV k] ∧ Bc Heap.empty .nils ⟨8, [[iV s.ticks, ps, hs, ws, ks, iV s.tries, is, os]]⟩ y (A2 ++ docL ((s.links.take k).map F3)) H) ⟨_, rfl, by simpa [docL_nil] using B⟩ ?_
  clear B
  rintro k st H hk ⟨y, rfl, B⟩
  simp only [ferry_ferryref25_Print_l3]
  by_cases hlt : k < s.links.length
  · have hix := hk'.idx (k := .i64) (i := k) (by rw [List.length_map]; exact hlt)
    rw [map_get hlt] at hix
    have hq := hN.k _ (List.getElem_mem hlt)
    have h0 : inR s.links[k].a := hq 0
    have h1 : inR s.links[k].b := hq 1
    have h2 : inR s.links[k].c := hq 2
    have h3 : inR s.links[k].d := hq 3
    have eg : q4R s.links[k] = [iV s.links[k].a, iV s.links[k].b, iV s.links[k].c, iV s.links[k].d] := rfl
    rw [eg] at hix
    have i0 := itoa_le h0
    have i1 := itoa_le h1
    have i2 := itoa_le h2
    have i3 := itoa_le h3
    have hT := docL_take (f := F3) hlt
    have eF : F3 s.links[k] = lineL (linkW s.links[k]) := by rw [← hF3]
    have lp := line_link s.links[k]
    have eL := congrArg List.length lp
    simp only [List.length_append, nl_len, spc_len, s_lens2.2.2.1] at eL
    have m0 := number_spec (G := G) (n + 3) h0
    have m1 := number_spec (G := G) (n + 3) h1
    have m2 := number_spec (G := G) (n + 3) h2
    have m3 := number_spec (G := G) (n + 3) h3
    rw [itoaB_bs] at m0 m1 m2 m3
    have rg : (⟨#[108, 105, 110, 107, 32]⟩ : ByteArray) = bs sLink := rfl
    have fl := B.fl
    have fH : Frame H ((H.add ⟨4, [[.int .i64 0, .int .i64 0, .int .i64 0, .int .i64 0]]⟩).set H.next ⟨4, [[iV s.links[k].a, iV s.links[k].b, iV s.links[k].c, iV s.links[k].d]]⟩) (fun _ => False) := (Frame.add _ _).st (Nat.le_refl _) _
    obtain ⟨c1, c2, c3, c4, c5, c6, c7, c8⟩ := sum8 (w := sLink) (a := Go.Lib.itoa s.links[k].a) (s := spc) (b := Go.Lib.itoa s.links[k].b) (r := spc) (c := Go.Lib.itoa s.links[k].c) (u := spc) (d := Go.Lib.itoa s.links[k].d) (t := nlc) (by rw [nl_len, spc_len, s_lens2.2.2.1]; omega)
    (repeat' (first | (simp only [wp, extractV, exists_eq_left', if_true, if_false, ite_true, ite_false, reduceIte, Nat.reduceAdd, Nat.reduceLT, Nat.reduceLeDiff, Nat.reduceEqDiff, nltT hlt, hix, fl, m0, m1, m2, m3, rg, c1, sp_bs, c2, c3, c4, c5, c6, c7, nl_bs, c8]) | (with_reducible refine Run.gC ?_ ?_ <;> intro hb <;> try simp only [hb]) | (with_reducible refine Run.gG ?_ ?_ <;> intro hb <;> try simp only [hb]) | (with_reducible refine Run.gQ ?_ ?_ <;> intro hb <;> try simp only [hb])))
    rw [← lp]
    refine (B.keep ((((fH.tr (Frame.q _ _)).tr (Frame.q _ _)).tr (Frame.q _ _)).tr (Frame.q _ _))).tapp hx (fun l hl => by simp [visB, Heap.add_next, Heap.set_next, Heap.q_next, Heap.empty_next] at hl ⊢; omega) (by rw [eF] at hT; simp only [List.length_append, nl_len]; omega) fun y' H4 B4 => ?_
    (repeat' (first | (simp only [wp, extractV, exists_eq_left', if_true, if_false, ite_true, ite_false, reduceIte, Nat.reduceAdd, Nat.reduceLT, Nat.reduceLeDiff, Nat.reduceEqDiff, nadd hlt (show s.links.length ≤ 9223372036854775807 by omega)]) | (with_reducible refine Run.gC ?_ ?_ <;> intro hb <;> try simp only [hb]) | (with_reducible refine Run.gG ?_ ?_ <;> intro hb <;> try simp only [hb]) | (with_reducible refine Run.gQ ?_ ?_ <;> intro hb <;> try simp only [hb])))
    refine ⟨hlt, y', rfl, ?_⟩
    rw [List.take_succ_eq_append_getElem hlt, List.map_append, docL_app, List.map_cons, List.map_nil, docL_one, eF, ← List.append_assoc]
    exact B4
  have hk0 : k = s.links.length := by omega
  subst hk0
  rw [List.take_length] at B
  have bb := B.b
  rw [e0] at bb
  (repeat' (first | (simp only [wp, extractV, exists_eq_left', if_true, if_false, ite_true, ite_false, reduceIte, Nat.reduceAdd, Nat.reduceLT, Nat.reduceLeDiff, Nat.reduceEqDiff, nltF hlt, bb, li]) | (with_reducible refine Run.gC ?_ ?_ <;> intro hb <;> try simp only [hb]) | (with_reducible refine Run.gG ?_ ?_ <;> intro hb <;> try simp only [hb]) | (with_reducible refine Run.gQ ?_ ?_ <;> intro hb <;> try simp only [hb])))
  generalize eA3 : A2 ++ docL (s.links.map F3) = A3 at B
  have hA3 : A3.length = A2.length + (docL (s.links.map F3)).length := by rw [← eA3, List.length_append]
  clear hlt bb
  -- inputs
  refine Run.loop (N := s.ins.length) (fun k st H => ∃ y, st = [y, iV k] ∧ Bc Heap.empty .nils ⟨8, [[iV s.ticks, ps, hs, ws, ks, iV s.tries, is, os]]⟩ y (A3 ++ docL ((s.ins.take k).map F4)) H) ⟨_, rfl, by simpa [docL_nil] using B⟩ ?_
  clear B
  rintro k st H hk ⟨y, rfl, B⟩
  simp only [ferry_ferryref25_Print_l4]
  by_cases hlt : k < s.ins.length
  · have hix := hi.idx (k := .i64) (i := k) (by rw [List.length_map]; exact hlt)
    rw [map_get hlt] at hix
    obtain ⟨h0, h1, h2, h3⟩ := hN.i _ (List.getElem_mem hlt)
    have eg : inpR s.ins[k] = [iV s.ins[k].p, iV s.ins[k].f, iV s.ins[k].q, .str (bs s.ins[k].d.data.toList)] := by rw [bs_toList]; rfl
    rw [eg] at hix
    have i0 := itoa_le h0
    have i1 := itoa_le h1
    have i2 := itoa_le h2
    have hd2 := dataL_len s.ins[k].d.data.toList
    have hT := docL_take (f := F4) hlt
    have eF : F4 s.ins[k] = lineL (inpW s.ins[k]) := by rw [← hF4]
    have lp := line_inp s.ins[k]
    have eL := congrArg List.length lp
    simp only [List.length_append, nl_len, spc_len, s_lens2.2.2.2] at eL
    have m0 := number_spec (G := G) (n + 3) h0
    have m1 := number_spec (G := G) (n + 3) h1
    have m2 := number_spec (G := G) (n + 3) h2
    rw [itoaB_bs] at m0 m1 m2
    have m3 := refData_spec (G := G) (n + 2) (l := s.ins[k].d.data.toList) (by omega)
    have rg : (⟨#[105, 110, 112, 117, 116, 32]⟩ : ByteArray) = bs sInp := rfl
    have fl := B.fl
    have fH : Frame H ((H.add ⟨4, [[.int .i64 0, .int .i64 0, .int .i64 0, .str ⟨#[]⟩]]⟩).set H.next ⟨4, [[iV s.ins[k].p, iV s.ins[k].f, iV s.ins[k].q, .str (bs s.ins[k].d.data.toList)]]⟩) (fun _ => False) := (Frame.add _ _).st (Nat.le_refl _) _
    obtain ⟨c1, c2, c3, c4, c5, c6, c7, c8⟩ := sum8 (w := sInp) (a := Go.Lib.itoa s.ins[k].p) (s := spc) (b := Go.Lib.itoa s.ins[k].f) (r := spc) (c := Go.Lib.itoa s.ins[k].q) (u := spc) (d := dataL s.ins[k].d.data.toList) (t := nlc) (by rw [nl_len, spc_len, s_lens2.2.2.2]; omega)
    (repeat' (first | (simp only [wp, extractV, exists_eq_left', if_true, if_false, ite_true, ite_false, reduceIte, Nat.reduceAdd, Nat.reduceLT, Nat.reduceLeDiff, Nat.reduceEqDiff, nltT hlt, hix, fl, m0, m1, m2, m3, rg, c1, sp_bs, c2, c3, c4, c5, c6, c7, nl_bs, c8]) | (with_reducible refine Run.gC ?_ ?_ <;> intro hb <;> try simp only [hb]) | (with_reducible refine Run.gG ?_ ?_ <;> intro hb <;> try simp only [hb]) | (with_reducible refine Run.gQ ?_ ?_ <;> intro hb <;> try simp only [hb])))
    rw [← lp]
    refine (B.keep ((((fH.tr (Frame.q _ _)).tr (Frame.q _ _)).tr (Frame.q _ _)).tr (Frame.q _ _))).tapp hx (fun l hl => by simp [visB, Heap.add_next, Heap.set_next, Heap.q_next, Heap.empty_next] at hl ⊢; omega) (by rw [eF] at hT; simp only [List.length_append, nl_len]; omega) fun y' H4 B4 => ?_
    (repeat' (first | (simp only [wp, extractV, exists_eq_left', if_true, if_false, ite_true, ite_false, reduceIte, Nat.reduceAdd, Nat.reduceLT, Nat.reduceLeDiff, Nat.reduceEqDiff, nadd hlt (show s.ins.length ≤ 9223372036854775807 by omega)]) | (with_reducible refine Run.gC ?_ ?_ <;> intro hb <;> try simp only [hb]) | (with_reducible refine Run.gG ?_ ?_ <;> intro hb <;> try simp only [hb]) | (with_reducible refine Run.gQ ?_ ?_ <;> intro hb <;> try simp only [hb])))
    refine ⟨hlt, y', rfl, ?_⟩
    rw [List.take_succ_eq_append_getElem hlt, List.map_append, docL_app, List.map_cons, List.map_nil, docL_one, eF, ← List.append_assoc]
    exact B4
  have hk0 : k = s.ins.length := by omega
  subst hk0
  rw [List.take_length] at B
  have bb := B.b
  rw [e0] at bb
  (repeat' (first | (simp only [wp, extractV, exists_eq_left', if_true, if_false, ite_true, ite_false, reduceIte, Nat.reduceAdd, Nat.reduceLT, Nat.reduceLeDiff, Nat.reduceEqDiff, nltF hlt, bb, lo]) | (with_reducible refine Run.gC ?_ ?_ <;> intro hb <;> try simp only [hb]) | (with_reducible refine Run.gG ?_ ?_ <;> intro hb <;> try simp only [hb]) | (with_reducible refine Run.gQ ?_ ?_ <;> intro hb <;> try simp only [hb])))
  generalize eA4 : A3 ++ docL (s.ins.map F4) = A4 at B
  have hA4 : A4.length = A3.length + (docL (s.ins.map F4)).length := by rw [← eA4, List.length_append]
  clear hlt bb
  -- ops
  refine Run.loop (N := s.ops.length) (fun k st H => ∃ y, st = [y, iV k] ∧ Bc Heap.empty .nils ⟨8, [[iV s.ticks, ps, hs, ws, ks, iV s.tries, is, os]]⟩ y (A4 ++ docL ((s.ops.take k).map opL)) H) ⟨_, rfl, by simpa [docL_nil] using B⟩ ?_
  clear B
  rintro k st H hk ⟨y, rfl, B⟩
  simp only [ferry_ferryref25_Print_l5]
  by_cases hlt : k < s.ops.length
  · have hix := ho.idx (k := .i64) (i := k) (by rw [List.length_map]; exact hlt)
    rw [map_get hlt] at hix
    have hq := hN.o _ (List.getElem_mem hlt)
    have hT := docL_take (f := opL) hlt
    have hol := opL_len hq
    have e4 : (q4R s.ops[k]).length = 4 := rfl
    have t4 : (q4R s.ops[k]).take 4 = q4R s.ops[k] := rfl
    have fl := B.fl
    have fH : Frame H ((H.add ⟨4, [[.int .i64 0, .int .i64 0, .int .i64 0, .int .i64 0]]⟩).set H.next ⟨4, [q4R s.ops[k]]⟩) (fun _ => False) := (Frame.add _ _).st (Nat.le_refl _) _
    (repeat' (first | (simp only [wp, extractV, exists_eq_left', if_true, if_false, ite_true, ite_false, reduceIte, Nat.reduceAdd, Nat.reduceLT, Nat.reduceLeDiff, Nat.reduceEqDiff, nltT hlt, hix, fl, e4, t4, refPrintOp_spec (n + 2) hq, nl_bs, add_bs (x := opL s.ops[k]) (y := nlc) (by rw [nl_len]; omega)]) | (with_reducible refine Run.gC ?_ ?_ <;> intro hb <;> try simp only [hb]) | (with_reducible refine Run.gG ?_ ?_ <;> intro hb <;> try simp only [hb]) | (with_reducible refine Run.gQ ?_ ?_ <;> intro hb <;> try simp only [hb])))
    refine (B.keep fH).app hx (by simp only [List.length_append, nl_len]; omega) fun y' H4 B4 => ?_
    (repeat' (first | (simp only [wp, extractV, exists_eq_left', if_true, if_false, ite_true, ite_false, reduceIte, Nat.reduceAdd, Nat.reduceLT, Nat.reduceLeDiff, Nat.reduceEqDiff, nadd hlt (show s.ops.length ≤ 9223372036854775807 by omega)]) | (with_reducible refine Run.gC ?_ ?_ <;> intro hb <;> try simp only [hb]) | (with_reducible refine Run.gG ?_ ?_ <;> intro hb <;> try simp only [hb]) | (with_reducible refine Run.gQ ?_ ?_ <;> intro hb <;> try simp only [hb])))
    refine ⟨hlt, y', rfl, ?_⟩
    rw [List.take_succ_eq_append_getElem hlt, List.map_append, docL_app, List.map_cons, List.map_nil, docL_one, ← List.append_assoc]
    exact B4
  have hk0 : k = s.ops.length := by omega
  subst hk0
  rw [List.take_length] at B
  (repeat' (first | (simp only [wp, extractV, exists_eq_left', if_true, if_false, ite_true, ite_false, reduceIte, Nat.reduceAdd, Nat.reduceLT, Nat.reduceLeDiff, Nat.reduceEqDiff, nltF hlt, Run.readOwn B.o]) | (with_reducible refine Run.gC ?_ ?_ <;> intro hb <;> try simp only [hb]) | (with_reducible refine Run.gG ?_ ?_ <;> intro hb <;> try simp only [hb]) | (with_reducible refine Run.gQ ?_ ?_ <;> intro hb <;> try simp only [hb])))
  rw [← eA4, ← eA3, ← eA2, ← eA1, ← eA0, eP]
  simp only [docL_app, docL_one, List.append_assoc]
end Go.Fv.Tr
