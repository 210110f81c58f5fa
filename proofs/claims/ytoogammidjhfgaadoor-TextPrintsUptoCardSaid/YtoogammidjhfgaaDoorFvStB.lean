/-
  Which scripts can be written: the document's question. By an AI agent; no person has read it.
-/
import Derived.Test.YtoogammidjhfgaaDoorFvStA
set_option linter.unusedVariables false
set_option linter.unusedSimpArgs false
set_option linter.unusedSectionVars false
/-! Which scripts can be written: the document's question. -/
namespace Go.Fv.Tr
open Go Go.Fv Go.Proofs
set_option linter.unusedSimpArgs false
set_option linter.unusedVariables false
variable {G : Nat → Option (List V)}

theorem all_step {α : Type} {l : List α} {f : α → Bool} {k : Nat} (hk : k < l.length) : (l.take (k + 1)).all f = ((l.take k).all f && f l[k]) := by
  rw [List.take_succ_eq_append_getElem hk, List.all_append]
  simp
def chkF (nh : Nat) : List Pl → Nat → Option Nat
  | [], _ => none
  | p :: ps, k => if (decide (k < nh) && goodB p (k : Int)) = true then chkF nh ps (k + 1) else some k
/-- The first part that can't be written. -/
def chk (s : Sc) : Option Nat := match chkF s.homes.length s.parts 0 with
  | some k => some k
  | none => if s.parts.length < s.homes.length then some s.parts.length else none
def chkI : Option Nat → Int
  | none => -1
  | some k => k

structure PlB (p : Pl) : Prop where
  pg : p.pgs.length ≤ 9223372036854775807
  pt : p.pts.length ≤ 9223372036854775807
/-- A script's cells, each list as it only is read. -/
structure ScS (l : List V) (s : Sc) (ps hs ws ks is os : V) (rows : List (List V)) : Prop where
  eq : l = [iV s.ticks, ps, hs, ws, ks, iV s.tries, is, os]
  p : Sls ps 7 rows
  h : Sls hs 1 (s.homes.map iR)
  w : Sls ws 3 (s.wins.map wnR)
  k : Sls ks 4 (s.links.map q4R)
  i : Sls is 4 (s.ins.map inpR)
  o : Sls os 4 (s.ops.map q4R)
  len : rows.length = s.parts.length
  row : ∀ (j : Nat) (hj : j < rows.length), PlS rows[j] (s.parts[j]'(by rw [← len]; exact hj))
  small : s.parts.length ≤ 9223372036854775807
  bnd : ∀ p ∈ s.parts, PlB p
theorem ScS.closed {l : List V} {s : Sc} {ps hs ws ks is os : V} {rows : List (List V)} (h : ScS l s ps hs ws ks is os rows) : (V.agg l).closedV = true := by
  rw [h.eq]
  show ([iV s.ticks, ps, hs, ws, ks, iV s.tries, is, os] : List V).all V.closed = true
  simp only [List.all_cons, List.all_nil, h.p.closed, h.h.closed, h.w.closed, h.k.closed, h.i.closed, h.o.closed]
  rfl
theorem drop_parts {l : List Pl} {k : Nat} (h : k < l.length) : l.drop k = l[k] :: l.drop (k + 1) := List.drop_eq_getElem_cons h

/-- A box written over: nothing that was there before has changed. -/
theorem frame_box {H H' : Heap} (f : Frame H H' (fun _ => False)) (z r : List (List V)) (s : Nat) : Frame H ((H'.add ⟨s, z⟩).set H'.next ⟨s, r⟩) (fun _ => False) :=
  ⟨Nat.le_succ_of_le f.next, f.floor, fun l hl hp => by
    have : ¬ (l = H'.next) := by have := f.next; omega
    rw [Heap.set_blk, if_neg this, Heap.add_blk, if_neg this]
    exact f.old l hl hp⟩

theorem refPages_loop (n : Nat) {a : V} {l : List Pg} (ha : Sls a 2 (l.map pgR)) (h1 : l.length ≤ 9223372036854775807) (B : Bool) {H : Heap} (hf : H.floor = 0) :
    Run (loopV (ferry_ferryref25_Check_l2 G (sem (cfg G) n) (.int .i64 (l.length : Nat)) a) [.bool B, .int .i64 0]) H fun r H' => r = (Ex.exit 2, [.bool (B && l.all pgOk), iV l.length]) ∧ Frame H H' (fun _ => False) := by
  refine Run.loop (N := l.length) (fun k st H' => st = [.bool (B && (l.take k).all pgOk), iV k] ∧ H'.floor = 0 ∧ Frame H H' (fun _ => False)) ⟨by simp [iV], hf, Frame.refl _ _⟩ ?_
  rintro k st H' hk ⟨rfl, hf', fr⟩
  simp only [ferry_ferryref25_Check_l2]
  by_cases hlt : k < l.length
  · have hix := ha.idx (k := .i64) (i := k) (by rw [List.length_map]; exact hlt)
    rw [map_get hlt] at hix
    have hst := all_step (f := pgOk) hlt
    generalize l[k] = q at hix hst
    have hq : pgOk q = (decide (0 ≤ q.r) && decide (q.r ≤ 7)) := rfl
    generalize hp1 : decide (0 ≤ q.r) = b1 at hq
    generalize hp2 : decide (q.r ≤ 7) = b2 at hq
    have hX : (B && (l.take (k + 1)).all pgOk) = ((B && (l.take k).all pgOk) && (b1 && b2)) := by rw [hst, hq, Bool.and_assoc]
    generalize (B && (l.take k).all pgOk) = X at *
    have fb := frame_box fr [[.int .i64 0, .str ⟨#[]⟩]] [[iV q.r, .str q.s]] 2
    (repeat' (first | (simp only [wp, extractV, exists_eq_left', if_true, if_false, ite_true, ite_false, reduceIte, Nat.reduceAdd, Nat.reduceLT, Nat.reduceLeDiff, Nat.reduceEqDiff, nltT hlt, hix, pgR, hf', hp1, hp2, nadd hlt h1]) | (with_reducible refine Run.gC ?_ ?_ <;> intro hb <;> try simp only [hb]) | (with_reducible refine Run.gG ?_ ?_ <;> intro hb <;> try simp only [hb]) | (with_reducible refine Run.gQ ?_ ?_ <;> intro hb <;> try simp only [hb])))
    all_goals (refine ⟨hlt, ?_, fb⟩; rw [hX]; simp_all [iV])
  · have : l.take k = l := List.take_of_length_le (by omega)
    have hkl : k = l.length := by omega
    (repeat' (first | (simp only [wp, extractV, exists_eq_left', if_true, if_false, ite_true, ite_false, reduceIte, Nat.reduceAdd, Nat.reduceLT, Nat.reduceLeDiff, Nat.reduceEqDiff, nltF hlt]) | (with_reducible refine Run.gC ?_ ?_ <;> intro hb <;> try simp only [hb]) | (with_reducible refine Run.gG ?_ ?_ <;> intro hb <;> try simp only [hb]) | (with_reducible refine Run.gQ ?_ ?_ <;> intro hb <;> try simp only [hb])))
    rw [this, hkl]
    exact ⟨rfl, fr⟩

theorem refPorts_loop (n : Nat) {a : V} {l : List Pt} (ha : Sls a 4 (l.map ptR)) (h1 : l.length ≤ 9223372036854775807) (B : Bool) {H : Heap} (hf : H.floor = 0) :
    Run (loopV (ferry_ferryref25_Check_l3 G (sem (cfg G) n) (.int .i64 (l.length : Nat)) a) [.bool B, .int .i64 0]) H fun r H' => r = (Ex.exit 4, [.bool (B && l.all ptOk), iV l.length]) ∧ Frame H H' (fun _ => False) := by
  refine Run.loop (N := l.length) (fun k st H' => st = [.bool (B && (l.take k).all ptOk), iV k] ∧ H'.floor = 0 ∧ Frame H H' (fun _ => False)) ⟨by simp [iV], hf, Frame.refl _ _⟩ ?_
  rintro k st H' hk ⟨rfl, hf', fr⟩
  simp only [ferry_ferryref25_Check_l3, ferry_ferryref25_Check_j1]
  by_cases hlt : k < l.length
  · have hix := ha.idx (k := .i64) (i := k) (by rw [List.length_map]; exact hlt)
    rw [map_get hlt] at hix
    have hst := all_step (f := ptOk) hlt
    generalize l[k] = q at hix hst
    have hq : ptOk q = ((q.k == 1 && q.d == 1) || (q.k == 2 && q.d == 1 && q.f == 0) || ((q.k == 3 || q.k == 4) && q.f == 0)) := rfl
    have hx1 : (q.k == 1) = true → (q.k == 2) = false ∧ (q.k == 3) = false ∧ (q.k == 4) = false := fun h => by have := eq_of_beq h; rw [this]; exact ⟨rfl, rfl, rfl⟩
    have hx2 : (q.k == 2) = true → (q.k == 3) = false ∧ (q.k == 4) = false := fun h => by have := eq_of_beq h; rw [this]; exact ⟨rfl, rfl⟩
    generalize hp1 : (q.k == 1) = b1 at hq hx1 hx2
    generalize hp2 : (q.k == 2) = b2 at hq hx1 hx2
    generalize hp3 : (q.k == 3) = b3 at hq hx1 hx2
    generalize hp4 : (q.k == 4) = b4 at hq hx1 hx2
    generalize hp5 : (q.d == 1) = b5 at hq
    generalize hp6 : (q.f == 0) = b6 at hq
    have hX : (B && (l.take (k + 1)).all ptOk) = ((B && (l.take k).all ptOk) && ((b1 && b5) || (b2 && b5 && b6) || ((b3 || b4) && b6))) := by rw [hst, hq]; cases B <;> rfl
    generalize (B && (l.take k).all ptOk) = X at *
    have fb := frame_box fr [[.int .i64 0, .int .i64 0, .int .i64 0, .int .i64 0]] [[iV q.k, iV q.z, iV q.d, iV q.f]] 4
    (repeat' (first | (simp only [wp, extractV, exists_eq_left', if_true, if_false, ite_true, ite_false, reduceIte, Nat.reduceAdd, Nat.reduceLT, Nat.reduceLeDiff, Nat.reduceEqDiff, nltT hlt, hix, ptR, hf', hp1, hp2, hp3, hp4, hp5, hp6, nadd hlt h1]) | (with_reducible refine Run.gC ?_ ?_ <;> intro hb <;> try simp only [hb]) | (with_reducible refine Run.gG ?_ ?_ <;> intro hb <;> try simp only [hb]) | (with_reducible refine Run.gQ ?_ ?_ <;> intro hb <;> try simp only [hb])))
    all_goals (refine ⟨hlt, ?_, fb⟩; rw [hX]; simp_all [iV])
  · have : l.take k = l := List.take_of_length_le (by omega)
    have hkl : k = l.length := by omega
    (repeat' (first | (simp only [wp, extractV, exists_eq_left', if_true, if_false, ite_true, ite_false, reduceIte, Nat.reduceAdd, Nat.reduceLT, Nat.reduceLeDiff, Nat.reduceEqDiff, nltF hlt]) | (with_reducible refine Run.gC ?_ ?_ <;> intro hb <;> try simp only [hb]) | (with_reducible refine Run.gG ?_ ?_ <;> intro hb <;> try simp only [hb]) | (with_reducible refine Run.gQ ?_ ?_ <;> intro hb <;> try simp only [hb])))
    rw [this, hkl]
    exact ⟨rfl, fr⟩

set_option maxRecDepth 20000 in
theorem refCheck_spec (n : Nat) {l : List V} {s : Sc} {ps hs ws ks is os : V} {rows : List (List V)} (h : ScS l s ps hs ws ks is os rows) :
    callV (cfg G) (sem (cfg G) (n + 1)) 30 [.agg l] = M.ret (.int .i64 (chkI (chk s))) := by
  refine callV_pure0 rfl (by simp only [List.all_cons, List.all_nil, h.closed]; rfl) rfl ?_
  have hsm := h.small
  have hln := h.len
  obtain ⟨rfl, hp, hh, hw, hk', hi, ho, _, hrow, _, hbnd⟩ := h
  rw [ferry_ferryref25_Check_eq]
  simp only [ferry_ferryref25_Check]
  have lp := hp.len
  have lh := hh.len
  rw [hln] at lp
  rw [List.length_map] at lh
  (repeat' (first | (simp only [wp, extractV, exists_eq_left', if_true, if_false, ite_true, ite_false, reduceIte, Nat.reduceAdd, Nat.reduceLT, Nat.reduceLeDiff, Nat.reduceEqDiff, lp]) | (with_reducible refine Run.gC ?_ ?_ <;> intro hb <;> try simp only [hb]) | (with_reducible refine Run.gG ?_ ?_ <;> intro hb <;> try simp only [hb]) | (with_reducible refine Run.gQ ?_ ?_ <;> intro hb <;> try simp only [hb])))
  refine Run.loop (N := s.parts.length) (fun k st H => st = [iV 0, iV k] ∧ H.floor = 0 ∧ 0 < H.next ∧ H.blk 0 = some ⟨8, [[iV s.ticks, ps, hs, ws, ks, iV s.tries, is, os]]⟩ ∧ chkF s.homes.length (s.parts.drop k) k = chkF s.homes.length s.parts 0) ⟨rfl, rfl, by exact Nat.zero_lt_one, rfl, rfl⟩ ?_
  rintro k st H hk ⟨rfl, hf, hn, htb, hck⟩
  simp only [ferry_ferryref25_Check_l1]
  have h0n : ¬ (0 = H.next) := by omega
  by_cases hlt : k < s.parts.length
  · have hlr : k < rows.length := by omega
    have hix := hp.idx (k := .i64) (i := k) hlr
    obtain ⟨a, b, c, d, hr, ra, rb, rc, rd⟩ := hrow k hlr
    rw [hr] at hix
    have hpb := hbnd _ (List.getElem_mem hlt)
    rw [drop_parts hlt, chkF] at hck
    generalize s.parts[k] = p at ra rb rc rd hix hpb hck
    have la := ra.len
    have lc := rc.len
    rw [List.length_map] at la lc
    generalize he1 : (p.id == (k : Int)) = e1
    have he2 : decide ((k : Int) < (s.homes.length : Int)) = decide (k < s.homes.length) := by simp
    generalize he3 : decide (k < s.homes.length) = e2 at he2 hck
    have hok : (e2 && goodB p (k : Int)) = ((e1 && e2) && p.pgs.all pgOk && p.pts.all ptOk) := by
      rw [goodB, he1]
      cases e1 <;> cases e2 <;> rfl
    rw [hok] at hck
    have fb := frame_box (Frame.refl H (fun _ => False)) [[V.int IntKind.i64 0, V.bool false, V.nils, V.nils, V.nils, V.int IntKind.i64 0, V.nils]] [[iV p.id, V.bool p.mob, a, b, c, iV p.ev, d]] 7
    have key : ∀ B : Bool, B = (e1 && e2) → Run (loopV (ferry_ferryref25_Check_l2 G (sem (cfg G) n) (.int .i64 (p.pgs.length : Nat)) a) [.bool B, .int .i64 0]) ((H.add ⟨7, [[V.int IntKind.i64 0, V.bool false, V.nils, V.nils, V.nils, V.int IntKind.i64 0, V.nils]]⟩).set H.next ⟨7, [[iV p.id, V.bool p.mob, a, b, c, iV p.ev, d]]⟩)
        fun r H' => r = (Ex.exit 2, [.bool ((e1 && e2) && p.pgs.all pgOk), iV p.pgs.length]) ∧ Frame H H' (fun _ => False) ∧ H'.blk H.next = some ⟨7, [[iV p.id, V.bool p.mob, a, b, c, iV p.ev, d]]⟩ := fun B hB => by
      subst hB
      have q := refPages_loop (G := G) (H := (H.add ⟨7, [[V.int IntKind.i64 0, V.bool false, V.nils, V.nils, V.nils, V.int IntKind.i64 0, V.nils]]⟩).set H.next ⟨7, [[iV p.id, V.bool p.mob, a, b, c, iV p.ev, d]]⟩) n ra hpb.pg (e1 && e2) hf
      refine q.mono fun r H' ⟨h1, h2⟩ => ⟨h1, fb.trans h2 (fun _ _ h => h) (fun _ _ h => h), ?_⟩
      rw [h2.old H.next (Nat.lt_succ_self _) id, Heap.set_blk, if_pos rfl]
    (repeat' (first | (simp only [wp, extractV, exists_eq_left', if_true, if_false, ite_true, ite_false, reduceIte, Nat.reduceAdd, Nat.reduceLT, Nat.reduceLeDiff, Nat.reduceEqDiff, nltT hlt, hix, htb, hf, if_neg h0n, lh, he1, he2, la]) | (with_reducible refine Run.gC ?_ ?_ <;> intro hb <;> try simp only [hb]) | (with_reducible refine Run.gG ?_ ?_ <;> intro hb <;> try simp only [hb]) | (with_reducible refine Run.gQ ?_ ?_ <;> intro hb <;> try simp only [hb])))
    all_goals
      refine (key _ (by simp_all)).mono fun r H1 ⟨hr, fr1, hbx⟩ => ?_
      subst hr
      have hf1 : H1.floor = 0 := fr1.floor.trans hf
      have hn1 := fr1.next
      (repeat' (first | (simp only [wp, extractV, exists_eq_left', if_true, if_false, ite_true, ite_false, reduceIte, Nat.reduceAdd, Nat.reduceLT, Nat.reduceLeDiff, Nat.reduceEqDiff, hbx, lc]) | (with_reducible refine Run.gC ?_ ?_ <;> intro hb <;> try simp only [hb]) | (with_reducible refine Run.gG ?_ ?_ <;> intro hb <;> try simp only [hb]) | (with_reducible refine Run.gQ ?_ ?_ <;> intro hb <;> try simp only [hb])))
      refine (refPorts_loop (G := G) (H := H1) n rc hpb.pt ((e1 && e2) && p.pgs.all pgOk) hf1).mono fun r H2 ⟨hr, fr2⟩ => ?_
      subst hr
      have hf2 : H2.floor = 0 := fr2.floor.trans hf1
      have hn2 := fr2.next
      have htb2 : H2.blk 0 = some ⟨8, [[iV s.ticks, ps, hs, ws, ks, iV s.tries, is, os]]⟩ := by rw [fr2.old 0 (by omega) id, fr1.old 0 hn id]; exact htb
      cases hY : ((e1 && e2) && p.pgs.all pgOk && p.pts.all ptOk)
      · rw [hY, if_neg (by decide)] at hck
        (repeat' (first | (simp only [wp, extractV, exists_eq_left', if_true, if_false, ite_true, ite_false, reduceIte, Nat.reduceAdd, Nat.reduceLT, Nat.reduceLeDiff, Nat.reduceEqDiff, hY]) | (with_reducible refine Run.gC ?_ ?_ <;> intro hb <;> try simp only [hb]) | (with_reducible refine Run.gG ?_ ?_ <;> intro hb <;> try simp only [hb]) | (with_reducible refine Run.gQ ?_ ?_ <;> intro hb <;> try simp only [hb])))
        have : chk s = some k := by unfold chk; rw [← hck]
        rw [this]
        rfl
      · rw [hY, if_pos rfl] at hck
        (repeat' (first | (simp only [wp, extractV, exists_eq_left', if_true, if_false, ite_true, ite_false, reduceIte, Nat.reduceAdd, Nat.reduceLT, Nat.reduceLeDiff, Nat.reduceEqDiff, hY, nadd hlt hsm]) | (with_reducible refine Run.gC ?_ ?_ <;> intro hb <;> try simp only [hb]) | (with_reducible refine Run.gG ?_ ?_ <;> intro hb <;> try simp only [hb]) | (with_reducible refine Run.gQ ?_ ?_ <;> intro hb <;> try simp only [hb])))
        first | exact ⟨hlt, hf2, by omega, htb2, hck⟩ | exact ⟨hlt, rfl, hf2, by omega, htb2, hck⟩ | exact ⟨hlt, ⟨hf2, by omega, htb2, hck⟩⟩
  · have hkl : k = s.parts.length := by omega
    have hdr : s.parts.drop k = [] := List.drop_of_length_le (by omega)
    rw [hdr, chkF] at hck
    (repeat' (first | (simp only [wp, extractV, exists_eq_left', if_true, if_false, ite_true, ite_false, reduceIte, Nat.reduceAdd, Nat.reduceLT, Nat.reduceLeDiff, Nat.reduceEqDiff, nltF hlt, htb, lh, lp]) | (with_reducible refine Run.gC ?_ ?_ <;> intro hb <;> try simp only [hb]) | (with_reducible refine Run.gG ?_ ?_ <;> intro hb <;> try simp only [hb]) | (with_reducible refine Run.gQ ?_ ?_ <;> intro hb <;> try simp only [hb])))
    · have hgt : s.parts.length < s.homes.length := by have := of_decide_eq_true hb; omega
      have : chk s = some s.parts.length := by unfold chk; rw [← hck]; exact if_pos hgt
      rw [this]
      rfl
    · have hgt : ¬ s.parts.length < s.homes.length := by have := of_decide_eq_false hb; omega
      have : chk s = none := by unfold chk; rw [← hck]; exact if_neg hgt
      rw [this]
      rfl
end Go.Fv.Tr
