/-
  Which scripts can be written: the program's question. By an AI agent; no person has read it.
-/
import Derived.Test.YtoogammidjhfgaaDoorFvStB
set_option linter.unusedVariables false
set_option linter.unusedSimpArgs false
set_option linter.unusedSectionVars false
/-! Which scripts can be written: the program's question. -/
namespace Go.Fv.Tr
open Go Go.Fv Go.Proofs
set_option linter.unusedSimpArgs false
set_option linter.unusedVariables false
variable {G : Nat → Option (List V)}

/-- A part's cells, each list whoever's memory it shows; 'q': where those lists lie. -/
def PlR (H : Heap) (q : Nat → Prop) (row : List V) (p : Pl) : Prop := ∃ a b c d, row = [iV p.id, .bool p.mob, a, b, c, iV p.ev, d] ∧ Rd H a 2 (p.pgs.map pgR) ∧ Rd H b 3 (p.prs.map pcR) ∧ Rd H c 4 (p.pts.map ptR) ∧ Rd H d 1 (p.sems.map iR) ∧
  (∀ m, loc a = some m → q m) ∧ (∀ m, loc b = some m → q m) ∧ (∀ m, loc c = some m → q m) ∧ (∀ m, loc d = some m → q m)
theorem PlR.imp {H : Heap} {q q' : Nat → Prop} {row : List V} {p : Pl} (h : PlR H q row p) (hq : ∀ m, m < H.next → q m → q' m) : PlR H q' row p := by
  obtain ⟨a, b, c, d, e, ra, rb, rc, rd, qa, qb, qc, qd⟩ := h
  exact ⟨a, b, c, d, e, ra, rb, rc, rd, fun m hm => hq m (ra.lt hm) (qa m hm), fun m hm => hq m (rb.lt hm) (qb m hm), fun m hm => hq m (rc.lt hm) (qc m hm), fun m hm => hq m (rd.lt hm) (qd m hm)⟩
theorem PlR.frame {H H' : Heap} {q r : Nat → Prop} {row : List V} {p : Pl} (h : PlR H q row p) (f : Frame H H' r) (hr : ∀ m, q m → ¬ r m) : PlR H' q row p := by
  obtain ⟨a, b, c, d, e, ra, rb, rc, rd, qa, qb, qc, qd⟩ := h
  exact ⟨a, b, c, d, e, ra.frame f fun l hl => hr l (qa l hl), rb.frame f fun l hl => hr l (qb l hl), rc.frame f fun l hl => hr l (qc l hl), rd.frame f fun l hl => hr l (qd l hl), qa, qb, qc, qd⟩
theorem PlR.thaw {H : Heap} {q : Nat → Prop} {row : List V} {p : Pl} (h : PlR H q row p) : ∃ row', thawV true H (.agg row) = some (.agg row') ∧ PlS row' p := by
  obtain ⟨a, b, c, d, rfl, ra, rb, rc, rd, _⟩ := h
  obtain ⟨a', ha, _, sa⟩ := ra.thaw (flat_pg _)
  obtain ⟨b', hb, _, sb⟩ := rb.thaw (flat_pc _)
  obtain ⟨c', hc, _, sc⟩ := rc.thaw (flat_pt _)
  obtain ⟨d', hd, _, sd⟩ := rd.thaw (flat_i _)
  refine ⟨[iV p.id, .bool p.mob, a', b', c', iV p.ev, d'], ?_, a', b', c', d', rfl, sa, sb, sc, sd⟩
  have h1 : Fv.thaw true H (iV p.id) = some (iV p.id) := by simp [Fv.thaw, V.flat]
  have h2 : Fv.thaw true H (V.bool p.mob) = some (V.bool p.mob) := by simp [Fv.thaw, V.flat]
  have h3 : Fv.thaw true H (iV p.ev) = some (iV p.ev) := by simp [Fv.thaw, V.flat]
  simp [thawV, h1, h2, h3, ha, hb, hc, hd]
theorem PlS.rd {H : Heap} {row : List V} {p : Pl} (h : PlS row p) : PlR H (fun _ => False) row p := by
  obtain ⟨a, b, c, d, e, ra, rb, rc, rd⟩ := h
  have no : ∀ {x : V} {sz : Nat} {rows : List (List V)}, Sls x sz rows → ∀ m, loc x = some m → False := fun h m hm => by
    rcases h with rfl | ⟨_, rfl | rfl⟩ <;> cases hm
  exact ⟨a, b, c, d, e, .sls ra, .sls rb, .sls rc, .sls rd, no ra, no rb, no rc, no rd⟩

/-- A script's cells, each list whoever's memory it shows. -/
structure ScR (H : Heap) (l : List V) (s : Sc) (ps hs ws ks is os : V) (rows : List (List V)) : Prop where
  eq : l = [iV s.ticks, ps, hs, ws, ks, iV s.tries, is, os]
  p : Rd H ps 7 rows
  h : Rd H hs 1 (s.homes.map iR)
  w : Rd H ws 3 (s.wins.map wnR)
  k : Rd H ks 4 (s.links.map q4R)
  i : Rd H is 4 (s.ins.map inpR)
  o : Rd H os 4 (s.ops.map q4R)
  len : rows.length = s.parts.length
  row : ∀ (j : Nat) (hj : j < rows.length), PlR H (fun _ => True) rows[j] (s.parts[j]'(by rw [← len]; exact hj))
  small : s.parts.length ≤ 9223372036854775807
  bnd : ∀ p ∈ s.parts, PlB p

def errA : V := .iface 341 (.ext 10)
theorem built (k : Int) : buildV [.int .i64 0, .nili] [(0, 1, iV k), (1, 1, errA)] = some (.agg [iV k, errA]) := rfl
theorem ifaced (l : Nat) : ifaceV 186 (.ptr l 0 0) = some (.iface 186 (.ptr l 0 0)) := rfl
theorem row7 {H : Heap} {q : Nat → Prop} {row : List V} {p : Pl} (h : PlR H q row p) : row.length = 7 := by
  obtain ⟨a, b, c, d, rfl, _⟩ := h; rfl

set_option maxRecDepth 20000 in
theorem check_run (hE : glob (cfg G) 10 = .iptr [errA] 0) (n : Nat) {H : Heap} {l : List V} {s : Sc} {ps hs ws ks is os : V} {rows : List (List V)} (h : ScR H l s ps hs ws ks is os rows) (hfl : H.floor = 0) :
    Run (callV (cfg G) (sem (cfg G) (n + 2)) 77 [.agg l]) H fun v H' => Frame H H' (fun _ => False) ∧
      (chk s = none ∧ v = .nili ∨ ∃ k lb, chk s = some k ∧ v = .iface 186 (.ptr lb 0 0) ∧ H'.blk lb = some ⟨2, [[iV k, errA]]⟩ ∧ lb < H'.next) := by
  have hsm := h.small
  have hln := h.len
  obtain ⟨rfl, hp, hh, hw, hk', hi, ho, _, hrow, _, hbnd⟩ := h
  rw [callV_inl rfl, ferry_text_Check_eq]
  simp only [ferry_text_Check]
  have lp := hp.len
  have lh := hh.len
  rw [hln] at lp
  rw [List.length_map] at lh
  (repeat' (first | (simp only [wp, extractV, exists_eq_left', if_true, if_false, ite_true, ite_false, reduceIte, Nat.reduceAdd, Nat.reduceLT, Nat.reduceLeDiff, Nat.reduceEqDiff, lp]) | (with_reducible refine Run.gC ?_ ?_ <;> intro hb <;> try simp only [hb]) | (with_reducible refine Run.gG ?_ ?_ <;> intro hb <;> try simp only [hb]) | (with_reducible refine Run.gQ ?_ ?_ <;> intro hb <;> try simp only [hb])))
  refine Run.loop (N := s.parts.length) (fun k st H' => st = [.nili, iV k] ∧ H'.floor = 0 ∧ H.next < H'.next ∧ H'.blk H.next = some ⟨8, [[iV s.ticks, ps, hs, ws, ks, iV s.tries, is, os]]⟩ ∧ Frame H H' (fun _ => False) ∧ chkF s.homes.length (s.parts.drop k) k = chkF s.homes.length s.parts 0)
    ⟨rfl, hfl, Nat.lt_succ_self _, by rw [Heap.add_blk, if_pos rfl], Frame.add _ _, rfl⟩ ?_
  rintro k st H1 hk ⟨rfl, hf, hn, htb, fr, hck⟩
  simp only [ferry_text_Check_l1]
  have h0n : ¬ (H.next = H1.next) := by omega
  by_cases hlt : k < s.parts.length
  · have hlr : k < rows.length := by omega
    obtain ⟨px, hix, hpl, _⟩ := (hp.frame fr (fun _ _ => id)).idx (k := .i64) (i := k) hlr
    have hR := (hrow k hlr).frame fr (fun _ _ => id)
    have hpb := hbnd _ (List.getElem_mem hlt)
    rw [drop_parts hlt, chkF] at hck
    have h7 := row7 hR
    have hld : ∀ Q : V → Heap → Prop, Run (loadN 7 px) H1 Q ↔ Q (.agg rows[k]) H1 := fun Q => by
      rw [Run.loadNAt hpl (by omega), List.drop_zero, List.take_of_length_le (by omega)]
    generalize s.parts[k] = p at hR hpb hck
    generalize rows[k] = row at hR h7 hld hpl
    have hgeq : decide ((s.homes.length : Int) ≤ (k : Int)) = !decide (k < s.homes.length) := by
      by_cases h : k < s.homes.length
      · rw [decide_eq_true h, decide_eq_false (by omega)]; rfl
      · rw [decide_eq_false h, decide_eq_true (by omega)]; rfl
    have fb := frame_box fr [[V.int IntKind.i64 0, V.bool false, V.nils, V.nils, V.nils, V.int IntKind.i64 0, V.nils]] [row] 7
    have fb1 := frame_box (Frame.refl H1 (fun _ => False)) [[V.int IntKind.i64 0, V.bool false, V.nils, V.nils, V.nils, V.int IntKind.i64 0, V.nils]] [row] 7
    have htk : row.take 7 = row := List.take_of_length_le (by omega)
    have hdp : row.drop 7 = [] := List.drop_of_length_le (by omega)
    have bad : (decide (k < s.homes.length) && goodB p (k : Int)) = false → chk s = some k := fun e => by
      rw [e, if_neg (by decide)] at hck
      unfold chk
      rw [← hck]
    have bt := built (k : Int)
    have it := ifaced
    by_cases hnh : k < s.homes.length
    · (repeat' (first | (simp only [wp, extractV, exists_eq_left', if_true, if_false, ite_true, ite_false, reduceIte, Nat.reduceAdd, Nat.reduceLT, Nat.reduceLeDiff, Nat.reduceEqDiff, nltT hlt, hix, hld, htb, hf, if_neg h0n, lh, hgeq, decide_eq_true hnh, htk, hdp, h7]) | (with_reducible refine Run.gC ?_ ?_ <;> intro hb <;> try simp only [hb]) | (with_reducible refine Run.gG ?_ ?_ <;> intro hb <;> try simp only [hb]) | (with_reducible refine Run.gQ ?_ ?_ <;> intro hb <;> try simp only [hb])))
      obtain ⟨row', hth, hS⟩ := (hR.frame fb1 (fun _ _ => id)).thaw
      refine (Run.callRef (bs := [.agg row', iV k]) rfl (by rw [List.mapM_cons, hth]; rfl) (by simp only [List.all_cons, List.all_nil, hS.closed]; rfl) (goodPart_spec n hS hpb.pg hpb.pt k) rfl).2 ?_
      cases hg : goodB p (k : Int)
      · have hc := bad (by rw [hg]; simp)
        (repeat' (first | (simp only [wp, extractV, exists_eq_left', if_true, if_false, ite_true, ite_false, reduceIte, Nat.reduceAdd, Nat.reduceLT, Nat.reduceLeDiff, Nat.reduceEqDiff, hE, bt, it]) | (with_reducible refine Run.gC ?_ ?_ <;> intro hb <;> try simp only [hb]) | (with_reducible refine Run.gG ?_ ?_ <;> intro hb <;> try simp only [hb]) | (with_reducible refine Run.gQ ?_ ?_ <;> intro hb <;> try simp only [hb])))
        exact ⟨fb.trans (Frame.add _ _) (fun _ _ h => h) (fun _ _ h => h), .inr ⟨k, H1.next + 1, hc, rfl, if_pos rfl, Nat.lt_succ_self _⟩⟩
      · rw [decide_eq_true hnh, hg, if_pos (show (true && true) = true from rfl)] at hck
        (repeat' (first | (simp only [wp, extractV, exists_eq_left', if_true, if_false, ite_true, ite_false, reduceIte, Nat.reduceAdd, Nat.reduceLT, Nat.reduceLeDiff, Nat.reduceEqDiff, nadd hlt hsm]) | (with_reducible refine Run.gC ?_ ?_ <;> intro hb <;> try simp only [hb]) | (with_reducible refine Run.gG ?_ ?_ <;> intro hb <;> try simp only [hb]) | (with_reducible refine Run.gQ ?_ ?_ <;> intro hb <;> try simp only [hb])))
        first | exact ⟨hlt, hf, by omega, by rw [if_neg h0n, if_neg h0n]; exact htb, fb, hck⟩ | exact ⟨hlt, rfl, hf, by omega, by rw [if_neg h0n, if_neg h0n]; exact htb, fb, hck⟩ | trace_state
    · have hc := bad (by rw [decide_eq_false hnh]; rfl)
      (repeat' (first | (simp only [wp, extractV, exists_eq_left', if_true, if_false, ite_true, ite_false, reduceIte, Nat.reduceAdd, Nat.reduceLT, Nat.reduceLeDiff, Nat.reduceEqDiff, nltT hlt, hix, hld, htb, hf, if_neg h0n, lh, hgeq, decide_eq_false hnh, htk, hdp, h7, hE, bt, it]) | (with_reducible refine Run.gC ?_ ?_ <;> intro hb <;> try simp only [hb]) | (with_reducible refine Run.gG ?_ ?_ <;> intro hb <;> try simp only [hb]) | (with_reducible refine Run.gQ ?_ ?_ <;> intro hb <;> try simp only [hb])))
      exact ⟨fb.trans (Frame.add _ _) (fun _ _ h => h) (fun _ _ h => h), .inr ⟨k, H1.next + 1, hc, rfl, if_pos rfl, Nat.lt_succ_self _⟩⟩
  · have hkl : k = s.parts.length := by omega
    have hdr : s.parts.drop k = [] := List.drop_of_length_le (by omega)
    rw [hdr, chkF] at hck
    have bt := built (s.parts.length : Int)
    have it := ifaced
    (repeat' (first | (simp only [wp, extractV, exists_eq_left', if_true, if_false, ite_true, ite_false, reduceIte, Nat.reduceAdd, Nat.reduceLT, Nat.reduceLeDiff, Nat.reduceEqDiff, nltF hlt, htb, lh, lp, hE, bt, it]) | (with_reducible refine Run.gC ?_ ?_ <;> intro hb <;> try simp only [hb]) | (with_reducible refine Run.gG ?_ ?_ <;> intro hb <;> try simp only [hb]) | (with_reducible refine Run.gQ ?_ ?_ <;> intro hb <;> try simp only [hb])))
    · have hgt : s.parts.length < s.homes.length := by have := of_decide_eq_true hb; omega
      have : chk s = some s.parts.length := by unfold chk; rw [← hck]; exact if_pos hgt
      exact ⟨fr.trans (Frame.add _ _) (fun _ _ h => h) (fun _ _ h => h), .inr ⟨s.parts.length, H1.next, this, rfl, if_pos rfl, Nat.lt_succ_self _⟩⟩
    · have hgt : ¬ s.parts.length < s.homes.length := by have := of_decide_eq_false hb; omega
      have : chk s = none := by unfold chk; rw [← hck]; exact if_neg hgt
      exact ⟨fr, .inl this⟩
end Go.Fv.Tr
