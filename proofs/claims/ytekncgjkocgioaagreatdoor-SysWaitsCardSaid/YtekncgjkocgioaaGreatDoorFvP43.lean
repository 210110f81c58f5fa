/-
  The law SysWaits, run to its end. By an AI agent; no person has read it.
-/
import Derived.Test.YtekncgjkocgioaaGreatDoorFvP42
set_option linter.unusedVariables false
set_option linter.unusedSimpArgs false
set_option linter.unusedSectionVars false
/-! The law SysWaits, run to its end. -/
namespace Go.Fv.Tr
open Go Go.Fv Go.Fv.Pl Go.Proofs
variable {G : GV}
namespace Sy
variable {l m : List V} {s : St} {p : Pn} {x y z a b c d x' y' z' u v w g : V} {pr : List (List V)} {k : List V} {H H' K : Heap} {i : Nat} {pc tk ft : Int} {rep : V}
theorem pS_b : pS.pages.length ≤ big ∧ pS.procs.length ≤ big ∧ pS.ports.length ≤ big ∧ pS.sems.length ≤ big := by decide
theorem rem_tk {t0:Int}:∃ tk,0 ≤ tk ∧ tk ≤ 10000 ∧ ∃ w,convI .u64 (i64 t0) = some (.int .u64 w) ∧ arithV .rem (.int .u64 w) (.int .u64 10001) = some (.int .u64 tk) ∧ convI .i64 (.int .u64 tk) = some (i64 tk):=by
 have hw:0 ≤ IntKind.u64.wrap t0:=by
  simp [IntKind.wrap,IntKind.bits,IntKind.signed]
  omega
 have h1:IntKind.u64.wrap t0 - 10001 * (IntKind.u64.wrap t0 / 10001) = (IntKind.u64.wrap t0).tmod 10001:=by
  rw [Int.tmod_eq_emod_of_nonneg hw]
  omega
 have h2:0 ≤ (IntKind.u64.wrap t0).tmod 10001 ∧ (IntKind.u64.wrap t0).tmod 10001 ≤ 10000:=by omega
 refine ⟨(IntKind.u64.wrap t0).tmod 10001,h2.1,h2.2,_,rfl,by simp [arithV],?_⟩
 exact conv_i64 (by omega) (by omega)
theorem one_ts {d : Int} (h : 0 ≤ d ∧ d ≤ 1010000) : TsOk 2 [⟨0, d⟩] := (TsOk_snoc (l := []) (t := ⟨0, d⟩)).2 ⟨.nil, ⟨of_decide_eq_true rfl, of_decide_eq_true rfl, h.1, h.2⟩, by simp, fun a h => by simp at h⟩
theorem one_p {d:Int}:∀ a ∈ [(⟨0,d⟩:Tm)],a.proc = 0 ∧ (2:Int) = 2:=fun a h => by
 rw [List.mem_singleton] at h
 subst h
 exact ⟨rfl,rfl⟩
theorem Run.gen {α : Type} {mm : M α} {Q : α → Heap → Prop} {P : Heap → Prop} (hP : P K) (h : ∀ K, P K → Run mm K Q) : Run mm K Q := h K hP
structure Lw (H:Heap) (L0 L1:Nat) (s:St) (a b c d x y z u v w g:V) (pr:List (List V)):Prop where
 fl:H.floor = 0
 b0:H.blk L0 = some ⟨7,[[i64 pS.id,.bool pS.mob,a,b,c,i64 pS.ev,d]]⟩
 b1:H.blk L1 = some ⟨10,[[i64 s.id,i64 s.fr,i64 s.ep,x,y,z,u,v,w,g]]⟩
 lt:L0 < H.next ∧ L1 < H.next ∧ L0 ≠ L1
 mp:MP H [i64 pS.id,.bool pS.mob,a,b,c,i64 pS.ev,d] pS a b c d
 ms:MS H [i64 s.id,i64 s.fr,i64 s.ep,x,y,z,u,v,w,g] s x y z u v w g pr
 m0:∀ n ∈ lv [a,b,c,d],n ≠ L0 ∧ n ≠ L1 ∧ n < H.next
 m1:∀ n ∈ lv [x,y,z,u,v,w,g] ++ lr pr,n ≠ L0 ∧ n ≠ L1 ∧ n ∉ lv [a,b,c,d]
theorem Lw.reg {L0 L1:Nat} (h:Lw H L0 L1 s a b c d x y z u v w g pr) (hb:StB s) {pc:Int} (hpc:0 ≤ pc ∧ pc < s.t.ps.length) {k:Nat} (hk:k < 16) (n:Int):∃ lx bk row,idxV 21 x (.int .i64 pc) = some (.ptr lx pc.toNat 0) ∧ H.blk lx = some bk ∧ bk.rows[pc.toNat]? = some row ∧ k + 1 ≤ row.length ∧ lx ≠ L0 ∧ lx ≠ L1 ∧ lx ∈ lv [x,y,z,u,v,w,g] ++ lr pr ∧
  Lw (H.set lx ⟨bk.sz,bk.rows.set pc.toNat (row.take k ++ [.int .u32 n] ++ row.drop (k + 1))⟩) L0 L1 (setR s pc k n) a b c d x y z u v w g pr:=by
 obtain ⟨lx,bk,row,h0,h1,h2,h3,h4,h5,h6,h7⟩:=ms_store h.ms hb hpc hk n
 have hm:lx ∈ lv [x,y,z,u,v,w,g] ++ lr pr:=List.mem_append_left _ (mem_lv.2 ⟨x,by simp,h0⟩)
 obtain ⟨q0,q1,q2⟩:=h.m1 lx hm
 refine ⟨lx,bk,row,h1,h2,h3,h6,q0,q1,hm,h.fl,?_,?_,h.lt,h.mp.frame (Frame.set (p:=fun m => m = lx) _ _ rfl) fun q hq e => q2 (e ▸ hq),h7,h.m0,h.m1⟩
 ·rw [Heap.set_blk,if_neg (Ne.symm q0)]
  exact h.b0
 ·rw [Heap.set_blk,if_neg (Ne.symm q1)]
  exact h.b1
set_option maxRecDepth 20000 in
set_option maxHeartbeats 4000000 in
theorem waits_run (hA : BErrs G) (hk : callV (cfg G) (sem (cfg G) 13) 8 [] = M.ret (.bool true)) {late t0 : Int} (hl : RegOk late) :
    Run (sem (cfg G) 14 5 [.int .u32 late, i64 t0]) Heap.empty fun v _ => v = .bool true := by
  rw [ferry_ferrylaw12_SysWaits_eq]
  simp only [ferry_ferrylaw12_SysWaits]
  obtain ⟨tk, k0, k1, wv, r1, r2, r3⟩ := rem_tk (t0 := t0)
  (repeat' (first | (simp only [wp, extractV, w0, reduceIte, Nat.reduceAdd, Nat.reduceLT, Nat.reduceLeDiff, Nat.reduceEqDiff, hk, r1, r2, r3]) | (with_reducible ((first | refine Run.gC ?_ ?_ | refine Run.gG ?_ ?_ | refine Run.gQ ?_ ?_) <;> intro hb <;> try simp only [hb]))))
  refine (small_new (Nat.le_refl _)).mono fun r H1 ⟨M, lp, a, b, c, d, ls, x, y, z, u, v, w, g, pr, er, mp, ms, f1, hlp, hls⟩ => ?_
  subst er
  have em := mp.eq
  have es := ms.eq
  subst em es
  have fl1 : H1.floor = 0 := f1.floor
  have n01 : ¬ (H1.next = H1.next + 1) := by omega
  have n02 : ¬ (H1.next + 1 = H1.next) := by omega
  have fl2 : H1.floor ≤ H1.next + 1 := by omega
  have fl3 : H1.floor ≤ H1.next := by omega
  obtain ⟨lx, bk, row, g0, g1, g2, g3, g4, g5, g6, g7⟩ := ms_store ms (sX_b Rg.zero Rg.zero (by decide) (by decide)) (pc := 0) (by decide) (k := 2) (by decide) late
  have g1' : idxV 21 x (.int .i64 0) = some (.ptr lx 0 0) := g1
  have g3' : bk.rows[0]? = some row := g3
  have g6' : 3 ≤ row.length := g6
  have n03 : ¬ (lx = H1.next) := by omega
  have n04 : ¬ (lx = H1.next + 1) := by omega
  have n05 : ¬ (H1.next = lx) := by omega
  have n06 : ¬ (H1.next + 1 = lx) := by omega
  have ha : aidxV 16 1 (.ptr lx 0 0) (.int .i64 2) = some (.ptr lx 0 2) := aidx16 (n := 2) (by decide)
  have fl4 : H1.floor ≤ lx := g4
  (repeat' (first | (simp only [wp, extractV, w0, reduceIte, Nat.reduceAdd, Nat.reduceLT, Nat.reduceLeDiff, Nat.reduceEqDiff, fl2, fl3, fl4, n01, n02, n03, n04, n05, n06, g1', g2, g3', g6', ha]) | (with_reducible ((first | refine Run.gC ?_ ?_ | refine Run.gG ?_ ?_ | refine Run.gQ ?_ ?_) <;> intro hb <;> try simp only [hb]))))
  refine Run.gen (P := fun K => ∃ L0 L1, L0 = H1.next ∧ L1 = H1.next + 1 ∧ Lw K L0 L1 (sX (Z16.set 2 late) Z16 1 0 [0, 1] [] false) a b c d x y z u v w g pr) ?_ fun K ⟨L0, L1, e0, e1, lw⟩ => ?_
  · refine ⟨_, _, rfl, rfl, fl1, ?_, ?_, ⟨by show H1.next < H1.next + 2; omega, by show H1.next + 1 < H1.next + 2; omega, n01⟩, ?_, ?_, fun n hn => ?_, fun n hn => ?_⟩
    · rw [Heap.set_blk, if_neg n05, Heap.set_blk, if_neg n01, Heap.set_blk, if_pos rfl]
    · rw [Heap.set_blk, if_neg n06, Heap.set_blk, if_pos rfl]
      rfl
    · refine mp.frame (H' := _) (P := fun q => q = lx) ⟨by show H1.next ≤ H1.next + 2; omega, rfl, fun q hq hne => ?_⟩ fun q hq e => ?_
      · rw [Heap.set_blk, if_neg hne, Heap.set_blk, if_neg (by omega), Heap.set_blk, if_neg (by omega), Heap.add_blk, if_neg (by show ¬ q = H1.next + 1; omega), Heap.add_blk, if_neg (by omega)]
      · have h1 := (hlp q hq).2
        have h2 := hls lx (List.mem_append_left _ (mem_lv.2 ⟨x, by simp, g0⟩))
        omega
    · refine MS.frame (P := fun _ => False) (show MS (H1.set lx ⟨bk.sz, bk.rows.set 0 (row.take 2 ++ [.int .u32 late] ++ row.drop 3)⟩) [i64 sS.id, i64 sS.fr, i64 sS.ep, x, y, z, u, v, w, g] (sX (Z16.set 2 late) Z16 1 0 [0, 1] [] false) x y z u v w g pr from g7) ⟨by show H1.next ≤ H1.next + 2; omega, rfl, fun q hq _ => ?_⟩ fun _ _ => id
      have hq : q < H1.next := hq
      by_cases hql : q = lx
      · subst hql
        rw [Heap.set_blk, if_pos rfl, Heap.set_blk, if_pos rfl]
      · rw [Heap.set_blk, if_neg hql, Heap.set_blk, if_neg (by omega), Heap.set_blk, if_neg (by omega), Heap.add_blk, if_neg (by show ¬ q = H1.next + 1; omega), Heap.add_blk, if_neg (by omega), Heap.set_blk, if_neg hql]
    · have h1 := hlp n hn
      have h2 : n < H1.next := by
        obtain ⟨q, hq, hl⟩ := mem_lv.1 hn
        simp only [List.mem_cons, List.not_mem_nil, or_false] at hq
        rcases hq with rfl | rfl | rfl | rfl
        · exact mp.pages.loc_lt hl
        · exact mp.procs.loc_lt hl
        · exact mp.ports.loc_lt hl
        · exact mp.sems.loc_lt hl
      exact ⟨by omega, by omega, by show n < H1.next + 2; omega⟩
    · have h1 := ms.lt hn
      have h2 := hls n hn
      exact ⟨by omega, by omega, fun g => by have := (hlp n g).2; omega⟩
  · subst e0 e1
    have hR : Rg (Z16.set 2 late) := Rg.zero.set (by decide) hl
    have hB := sX_b (st0 := 1) (w0 := 0) (up := false) hR Rg.zero (q := [0, 1]) (ts := []) (by decide) (by decide)
    have hOk := sX_ok hR Rg.zero (by decide) (.inl ⟨rfl, by decide⟩) q01 (.nil) (fun a h => by cases h) (up := false)
    have hC := (sX_can hR Rg.zero hOk hB ⟨k0, k1⟩).1 rfl
    have hD := do_mem hA 2 lw.mp pS_b lw.ms hB hOk (pc := 0) (by exact ⟨by decide, of_decide_eq_true rfl⟩) rfl ⟨k0, k1⟩ (call := 9) (by decide) (s' := doAwait pS (sX (Z16.set 2 late) Z16 1 0 [0, 1] [] false) 0 tk)
      (fun hx hf => await_run hA 2 hx hf hC ⟨by decide, by decide⟩ rfl) (by rw [lw.fl]; exact Nat.zero_le _)
    clear hOk hC g7 g2 g3 g3' g6 g6' ha
    have hz1 : ((Z16.set 2 late)[1]?).getD 0 = 0 := rfl
    have hz2 : ((Z16.set 2 late)[2]?).getD 0 = late := rfl
    by_cases h0 : late = 0
    · rw [wait_late (hz2.trans h0) hz1] at hD
      refine hD.mono fun r K2 ⟨l2, x2, y2, z2, u2, v2, w2, g2, pr2, e2, ms2, f2, hge2⟩ => ?_
      subst e2
      have el2 := ms2.eq
      subst el2
      have fk2 : K2.floor = 0 := f2.floor.trans lw.fl
      have hlx : lenV x2 = some (i64 2) := ms2.ps.len
      obtain ⟨lx2, bk2, p1, p2, p3, p4, -⟩ := ms2.ps.idx (k := .i64) (i := 0) (show (0 : Nat) < 2 by decide)
      have p2' : idxV 21 x2 (.int .i64 0) = some (.ptr lx2 0 0) := p2
      have p5 := ms2.ps.loc_lt p1
      have c1 : ¬ (lx2 = K2.next) := by omega
      have c2 : ¬ (lx2 = K2.next + 1) := by omega
      have c3 : ¬ (lx2 = K2.next + 1 + 1) := by omega
      have c4 : ¬ (K2.next = K2.next + 1) := by omega
      have c5 : ¬ (K2.next = K2.next + 1 + 1) := by omega
      have c6 : ¬ (K2.next + 1 = K2.next + 1 + 1) := by omega
      have c7 : K2.floor ≤ K2.next + 1 := by omega
      have c8 : K2.floor ≤ K2.next + 1 + 1 := by omega
      have c9 : K2.floor ≤ K2.next := by omega
      have d1 : ¬ (K2.next + 1 = K2.next) := by omega
      have d2 : ¬ (K2.next + 1 + 1 = K2.next) := by omega
      have d3 : ¬ (K2.next + 1 + 1 = K2.next + 1) := by omega
      have ha1 : aidxV 16 1 (.ptr (K2.next + 1 + 1) 0 0) (.int .i64 1) = some (.ptr (K2.next + 1 + 1) 0 1) := aidx16 (n := 1) (by decide)
      have hly : lenV y2 = some (i64 2) := ms2.q.len
      have hlz : lenV z2 = some (i64 0) := ms2.ts.len
      have e0 : (late == 0) = true := by simpa using h0
      have hw0 : Wp ⟨(Z16.set 2 late).set 1 4294967294, 0, 1, 5, 0, 0⟩ := (hR.set (by decide) (by unfold RegOk; omega)).len
      have p4' : bk2.rows[0]? = some (prRow ⟨(Z16.set 2 late).set 1 4294967294, 0, 1, 5, 0, 0⟩) := p4
      have hrg : (prRow ⟨(Z16.set 2 late).set 1 4294967294, 0, 1, 5, 0, 0⟩)[1]? = some (.int .u32 4294967294) := prRow_reg hw0 (n := 1) (by decide)
      (repeat' (first | (simp only [wp, extractV, w0, reduceIte, Nat.reduceAdd, Nat.reduceLT, Nat.reduceLeDiff, Nat.reduceEqDiff, eq_nili, c7, c8, c9, c1, c2, c3, c4, c5, c6, d1, d2, d3, hlx, hly, hlz, p2', p3, p4', pr_len hw0, pr_take hw0, ha1, hrg, pr_state hw0, e0, beq_self_eq_true]) | (with_reducible ((first | refine Run.gC ?_ ?_ | refine Run.gG ?_ ?_ | refine Run.gQ ?_ ?_) <;> intro hb <;> try simp only [hb]))))
    by_cases hto : timeOk late
    · rw [wait_for (fun e => h0 (hz2.symm.trans e)) (by rw [hz2]; exact hto) hz1, hz2] at hD
      have e0 : (late == 0) = false := by simpa using h0
      by_cases hfv : late = 4294967295
      · rw [if_pos hfv] at hD
        have e1 : (late == 4294967295) = true := by simpa using hfv
        have e2 : decide (1000000 < late) = true := by rw [decide_eq_true_eq]; omega
        refine hD.mono fun r K2 ⟨l2, x2, y2, z2, u2, v2, w2, g2, pr2, e2, ms2, f2, hge2⟩ => ?_
        subst e2
        have el2 := ms2.eq
        subst el2
        have fk2 : K2.floor = 0 := f2.floor.trans lw.fl
        have hlx : lenV x2 = some (i64 2) := ms2.ps.len
        obtain ⟨lx2, bk2, p1, p2, p3, p4, -⟩ := ms2.ps.idx (k := .i64) (i := 0) (show (0 : Nat) < 2 by decide)
        have p2' : idxV 21 x2 (.int .i64 0) = some (.ptr lx2 0 0) := p2
        have p5 := ms2.ps.loc_lt p1
        have c1 : ¬ (lx2 = K2.next) := by omega
        have c2 : ¬ (lx2 = K2.next + 1) := by omega
        have c3 : ¬ (lx2 = K2.next + 1 + 1) := by omega
        have c4 : ¬ (K2.next = K2.next + 1) := by omega
        have c5 : ¬ (K2.next = K2.next + 1 + 1) := by omega
        have c6 : ¬ (K2.next + 1 = K2.next + 1 + 1) := by omega
        have c7 : K2.floor ≤ K2.next + 1 := by omega
        have c8 : K2.floor ≤ K2.next + 1 + 1 := by omega
        have c9 : K2.floor ≤ K2.next := by omega
        have d1 : ¬ (K2.next + 1 = K2.next) := by omega
        have d2 : ¬ (K2.next + 1 + 1 = K2.next) := by omega
        have d3 : ¬ (K2.next + 1 + 1 = K2.next + 1) := by omega
        have ha1 : aidxV 16 1 (.ptr (K2.next + 1 + 1) 0 0) (.int .i64 1) = some (.ptr (K2.next + 1 + 1) 0 1) := aidx16 (n := 1) (by decide)
        have hly : lenV y2 = some (i64 1) := ms2.q.len
        have hlz : lenV z2 = some (i64 0) := ms2.ts.len
        obtain ⟨ly2, bl2, p6, p7, p8, p9, -⟩ := ms2.q.idx (k := .i64) (i := 0) (show (0 : Nat) < 1 by decide)
        have p7' : idxV 1 y2 (.int .i64 0) = some (.ptr ly2 0 0) := p7
        have p9' : bl2.rows[0]? = some [i64 1] := p9
        have p10 := ms2.q.loc_lt p6
        have h1 : ¬ (ly2 = K2.next) := by omega
        have h2 : ¬ (ly2 = K2.next + 1) := by omega
        have h3 : ¬ (ly2 = K2.next + 1 + 1) := by omega
        have hw0 : Wp ⟨Z16.set 2 late, 0, 2, 5, 2, 0⟩ := hR.len
        have p4' : bk2.rows[0]? = some (prRow ⟨Z16.set 2 late, 0, 2, 5, 2, 0⟩) := p4
        (repeat' (first | (simp only [wp, extractV, w0, reduceIte, Nat.reduceAdd, Nat.reduceLT, Nat.reduceLeDiff, Nat.reduceEqDiff, eq_nili, c7, c8, c9, c1, c2, c3, c4, c5, c6, d1, d2, d3, h1, h2, h3, hlx, hly, hlz, p2', p3, p4', p7', p8, p9', pr_len hw0, pr_take hw0, ha1, pr_state hw0, pr_wait hw0, pr_obj hw0, e0, e1, e2, beq_self_eq_true]) | (with_reducible ((first | refine Run.gC ?_ ?_ | refine Run.gG ?_ ?_ | refine Run.gQ ?_ ?_) <;> intro hb <;> try simp only [hb]))))
        refine Run.gen (P := fun K3 => Lw K3 H1.next (K2.next + 1) (sX (Z16.set 2 late) Z16 2 2 [1] [] false) a b c d x2 y2 z2 u2 v2 w2 g2 pr2 ∧ (∃ w12, K3.blk K2.next = some ⟨12, [w12]⟩ ∧ w12.length = 12) ∧ K2.next < K3.next ∧ K2.next ∉ lv [x2, y2, z2, u2, v2, w2, g2] ++ lr pr2 ∧ K2.next ≠ H1.next ∧ K2.next ∉ lv [a, b, c, d]) ?_ fun K3 hP => ?_
        · have nlt := lw.lt
          have f3 := f2.next
          have fr := (((((Frame.add (H := K2) ⟨12, [[.int .i64 0, .int .i64 0, .int .i64 0, .nils, .nils, .nils, .nils, .nils, .nils, .nils, .nils, .int .i64 0]]⟩ (fun _ => False)).st (Nat.le_refl _) ⟨12, [[i64 0, i64 0, i64 0, x2, y2, z2, u2, v2, w2, g2, .nils, i64 0]]⟩).ad ⟨10, [[.int .i64 0, .int .i64 0, .int .i64 0, .nils, .nils, .nils, .nils, .nils, .nils, .nils]]⟩).st (l := K2.next + 1) (Nat.le_succ _) ⟨10, [[i64 0, i64 0, i64 0, x2, y2, z2, u2, v2, w2, g2]]⟩).ad ⟨21, [[.int .u32 0, .int .u32 0, .int .u32 0, .int .u32 0, .int .u32 0, .int .u32 0, .int .u32 0, .int .u32 0, .int .u32 0, .int .u32 0, .int .u32 0, .int .u32 0, .int .u32 0, .int .u32 0, .int .u32 0, .int .u32 0, .int .u32 0, .int .i64 0, .int .i64 0, .int .i64 0, .int .i64 0]]⟩).st (l := K2.next + 1 + 1) (by omega) ⟨21, [prRow ⟨Z16.set 2 late, 0, 2, 5, 2, 0⟩]⟩
          refine ⟨⟨fk2, ?_, ?_, ⟨by show H1.next < K2.next + 3; omega, by show K2.next + 1 < K2.next + 3; omega, by omega⟩, (lw.mp.frame f2 fun _ _ => id).frame fr fun _ _ => id, ms2.frame fr fun _ _ => id, fun n hn => ?_, fun n hn => ?_⟩, ⟨[i64 0, i64 0, i64 0, x2, y2, z2, u2, v2, w2, g2, .nils, i64 0], ?_, rfl⟩, by show K2.next < K2.next + 3; omega, fun hm => by have := ms2.lt hm; omega, by omega, fun hm => by have := (lw.m0 _ hm).2.2; omega⟩
          · exact (fr.old H1.next (by omega) id).trans ((f2.old H1.next nlt.1 id).trans lw.b0)
          · simp only [Heap.set_blk, Heap.add_blk, Heap.add_next, Heap.set_next, c4, c5, c6, d1, d2, d3, if_true, if_false]
            first | done | rfl
          · have := lw.m0 n hn
            exact ⟨this.1, by omega, by show n < K2.next + 3; omega⟩
          · have h1 := ms2.lt hn
            have h2 := hge2 n hn
            refine ⟨by omega, by omega, fun hm => ?_⟩
            have := (lw.m0 n hm).2.2
            omega
          · simp only [Heap.set_blk, Heap.add_blk, Heap.add_next, Heap.set_next, c4, c5, c6, d1, d2, d3, if_true, if_false]
            first | done | rfl
        · obtain ⟨lw3, ⟨w12, hb12, hl12⟩, o1, o2, o3, o4⟩ := hP
          have hB3 := sX_b (st0 := 2) (w0 := 2) (up := false) hR Rg.zero (q := [1]) (ts := []) (by decide) (of_decide_eq_true rfl)
          obtain ⟨ly3, bk3, row3, i1, i2, i3, i4, i5, i6, i7, lw4⟩ := lw3.reg hB3 (pc := 1) ⟨by decide, of_decide_eq_true rfl⟩ (k := 1) (by decide) 0
          have i1' : idxV 21 x2 (.int .i64 1) = some (.ptr ly3 1 0) := i1
          have i3' : bk3.rows[1]? = some row3 := i3
          have i4' : 2 ≤ row3.length := i4
          have ia : aidxV 16 1 (.ptr ly3 1 0) (.int .i64 1) = some (.ptr ly3 1 1) := aidx16 (n := 1) (by decide)
          have i8 : K3.floor ≤ ly3 := by rw [lw3.fl]; exact Nat.zero_le _
          have i9 : ¬ (ly3 = K2.next) := fun e => o2 (e ▸ i7)
          have i10 : ¬ (K2.next = ly3) := fun e => i9 e.symm
          have i11 : ¬ (H1.next = ly3) := fun e => i5 e.symm
          have i12 : ¬ (K2.next + 1 = ly3) := fun e => i6 e.symm
          have j0 := lw3.b0
          have j1 := lw3.b1
          (repeat' (first | (simp only [wp, extractV, w0, reduceIte, Nat.reduceAdd, Nat.reduceLT, Nat.reduceLeDiff, Nat.reduceEqDiff, i8, i1', ia, i2, i3', i4', i5, i6, i9, i10, i11, i12, j0, j1]) | (with_reducible ((first | refine Run.gC ?_ ?_ | refine Run.gG ?_ ?_ | refine Run.gQ ?_ ?_) <;> intro hb <;> try simp only [hb]))))
          refine Run.gen (P := fun K4 => Lw K4 H1.next (K2.next + 1) (sX (Z16.set 2 late) (Z16.set 1 0) 2 2 [1] [] false) a b c d x2 y2 z2 u2 v2 w2 g2 pr2 ∧ (∃ w12, K4.blk K2.next = some ⟨12, [w12]⟩ ∧ w12.length = 12) ∧ K2.next < K4.next) ⟨lw4, ⟨w12, by rw [Heap.set_blk, if_neg i10]; exact hb12, hl12⟩, o1⟩ fun K4 hP4 => ?_
          obtain ⟨lw5, ⟨w13, hb13, hl13⟩, o5⟩ := hP4
          have hR1 : Rg (Z16.set 1 0) := Rg.zero.set (by decide) (by unfold RegOk; omega)
          have hB5 := sX_b (st0 := 2) (w0 := 2) (up := false) hR hR1 (q := [1]) (ts := []) (by decide) (of_decide_eq_true rfl)
          have hOk5 := sX_ok hR hR1 (by decide) (.inr ⟨rfl, rfl, rfl⟩) q1 (.nil) (fun a h => by cases h) (up := false)
          have hC5 := (sX_can hR hR1 hOk5 hB5 ⟨k0, k1⟩).2
          have hD5 := do_mem hA 2 lw5.mp pS_b lw5.ms hB5 hOk5 (pc := 1) ⟨by decide, of_decide_eq_true rfl⟩ rfl ⟨k0, k1⟩ (call := 7) (by decide) (s' := doSet pS (sX (Z16.set 2 late) (Z16.set 1 0) 2 2 [1] [] false) 1)
            (fun hx hf => set_run hA 2 hx hf hC5 ⟨by decide, by decide⟩ rfl) (by rw [lw5.fl]; exact Nat.zero_le _)
          rw [set_for rfl (.inl rfl)] at hD5
          refine hD5.mono fun r K5 ⟨l5, x5, y5, z5, u5, v5, w5, g5, pr5, e5, ms5, f5, hge5⟩ => ?_
          subst e5
          have el5 := ms5.eq
          subst el5
          have fk5 : K5.floor = 0 := f5.floor.trans lw5.fl
          have n5 := f5.next
          have hb13 := (f5.old K2.next o5 id).trans hb13
          have dr13 : w13.drop 12 = [] := List.drop_of_length_le (by omega)
          have l13 : 12 ≤ w13.length := by omega
          have y1 : lenV x5 = some (i64 2) := ms5.ps.len
          have y2' : lenV u5 = some (i64 1) := ms5.up.len
          have y3 : lenV z5 = some (i64 0) := ms5.ts.len
          have y4 : lenV y5 = some (i64 2) := ms5.q.len
          have u1 : ¬ (K5.next = K2.next) := by omega
          have u2 : ¬ (K2.next = K5.next) := by omega
          have u3 : K5.floor ≤ K2.next := by omega
          have u4 : K5.floor ≤ K5.next := by omega
          obtain ⟨lu5, bu5, v1, v2', v3, v4, -⟩ := ms5.up.idx (k := .i64) (i := 0) (show (0 : Nat) < 1 by decide)
          have v2'' : idxV 1 u5 (.int .i64 0) = some (.ptr lu5 0 0) := v2'
          have v4' : bu5.rows[0]? = some [.bool true] := v4
          obtain ⟨ly5, by5, t1, t2, t3, t4, -⟩ := ms5.q.idx (k := .i64) (i := 1) (show (1 : Nat) < 2 by decide)
          have t2' : idxV 1 y5 (.int .i64 1) = some (.ptr ly5 1 0) := t2
          have t4' : by5.rows[1]? = some [i64 0] := t4
          have b1u := ms5.up.loc_lt v1
          have b2u := hge5 lu5 (List.mem_append_left _ (mem_lv.2 ⟨u5, by simp, v1⟩))
          have b1y := ms5.q.loc_lt t1
          have b2y := hge5 ly5 (List.mem_append_left _ (mem_lv.2 ⟨y5, by simp, t1⟩))
          have w1 : ¬ (lu5 = K2.next) := by omega
          have w2 : ¬ (lu5 = K5.next) := by omega
          have w3 : ¬ (ly5 = K2.next) := by omega
          have w4 : ¬ (ly5 = K5.next) := by omega
          (repeat' (first | (simp only [wp, extractV, w0, reduceIte, Nat.reduceAdd, Nat.reduceLT, Nat.reduceLeDiff, Nat.reduceEqDiff, eq_nili, hb13, dr13, l13, y1, y2', y3, y4, u1, u2, u3, u4, v2'', v3, v4', t2', t3, t4', w1, w2, w3, w4, beq_self_eq_true]) | (with_reducible ((first | refine Run.gC ?_ ?_ | refine Run.gG ?_ ?_ | refine Run.gQ ?_ ?_) <;> intro hb <;> try simp only [hb]))))
          have hR5 : Rg ((Z16.set 2 late).set 1 0) := hR.set (by decide) (by unfold RegOk; omega)
          have hR6 : Rg ((Z16.set 1 0).set 1 0) := hR1.set (by decide) (by unfold RegOk; omega)
          refine Run.gen (P := fun K6 => Lw K6 H1.next K5.next (sX ((Z16.set 2 late).set 1 0) ((Z16.set 1 0).set 1 0) 1 0 [1, 0] [] true) a b c d x5 y5 z5 u5 v5 w5 g5 pr5 ∧ (∃ w12, K6.blk K2.next = some ⟨12, [w12]⟩ ∧ w12.length = 12) ∧ K2.next < K6.next ∧ K2.next ≠ K5.next ∧ K2.next ∉ lv [x5, y5, z5, u5, v5, w5, g5] ++ lr pr5) ?_ fun K6 hP6 => ?_
          · have nlt := lw5.lt
            have fr : Frame K5 (((K5.set K2.next ⟨12, [[i64 0, i64 0, i64 0, x5, y5, z5, u5, v5, w5, g5, .nils, i64 0]]⟩).add ⟨10, [[.int .i64 0, .int .i64 0, .int .i64 0, .nils, .nils, .nils, .nils, .nils, .nils, .nils]]⟩).set K5.next ⟨10, [[i64 0, i64 0, i64 0, x5, y5, z5, u5, v5, w5, g5]]⟩) (fun q => q = K2.next) :=
              ⟨Nat.le_succ _, rfl, fun q hq hne => by rw [Heap.set_blk, if_neg (by omega), Heap.add_blk, if_neg (by show ¬ q = K5.next; omega), Heap.set_blk, if_neg hne]⟩
            have hno : ∀ n ∈ lv [x5, y5, z5, u5, v5, w5, g5] ++ lr pr5, n ≠ K2.next := fun n hn e => by have := hge5 n hn; omega
            refine ⟨⟨fk5, ?_, ?_, ⟨by show H1.next < K5.next + 1; omega, by show K5.next < K5.next + 1; omega, by omega⟩, (lw5.mp.frame f5 fun _ _ => id).frame fr fun n hn e => (o4 (e ▸ hn)), ms5.frame fr hno, fun n hn => ?_, fun n hn => ?_⟩, ⟨[i64 0, i64 0, i64 0, x5, y5, z5, u5, v5, w5, g5, .nils, i64 0], ?_, rfl⟩, by show K2.next < K5.next + 1; omega, by omega, fun hm => hno _ hm rfl⟩
            · exact (fr.old H1.next (by omega) (fun e => o3 e.symm)).trans ((f5.old H1.next nlt.1 id).trans lw5.b0)
            · rw [Heap.set_blk, if_pos rfl]
              all_goals rfl
            · have := lw5.m0 n hn
              exact ⟨this.1, by omega, by show n < K5.next + 1; omega⟩
            · have h1 := ms5.lt hn
              have h2 := hge5 n hn
              refine ⟨by omega, by omega, fun hm => ?_⟩
              have := (lw5.m0 n hm).2.2
              omega
            · rw [Heap.set_blk, if_neg u2, Heap.add_blk, if_neg (by show ¬ K2.next = K5.next; omega), Heap.set_blk, if_pos rfl]
              all_goals rfl
          obtain ⟨lw6, ⟨w16, hb16, hl16⟩, o6, o7, o8⟩ := hP6
          have hB6 := sX_b (st0 := 1) (w0 := 0) (up := true) hR5 hR6 (q := [1, 0]) (ts := []) (by decide) (by decide)
          obtain ⟨l6, bk6, row6, a1, a2, a3, a4, a5, a6, a7, lw7⟩ := lw6.reg hB6 (pc := 0) ⟨by decide, of_decide_eq_true rfl⟩ (k := 1) (by decide) 0
          have hR7 : Rg (((Z16.set 2 late).set 1 0).set 1 0) := hR5.set (by decide) (by unfold RegOk; omega)
          have hB7 := sX_b (st0 := 1) (w0 := 0) (up := true) hR7 hR6 (q := [1, 0]) (ts := []) (by decide) (by decide)
          obtain ⟨l7, bk7, row7, b1, b2, b3, b4, b5, b6, b7, lw8⟩ := Lw.reg (s := sX (((Z16.set 2 late).set 1 0).set 1 0) ((Z16.set 1 0).set 1 0) 1 0 [1, 0] [] true) lw7 hB7 (pc := 0) ⟨by decide, of_decide_eq_true rfl⟩ (k := 2) (by decide) 0
          have e67 : l7 = l6 := by
            have := b1.symm.trans a1
            simp only [Option.some.injEq, V.ptr.injEq] at this
            exact this.1
          subst e67
          rw [Heap.set_blk, if_pos rfl] at b2
          have eb := Option.some.inj b2
          subst eb
          obtain ⟨lz, bz, z1', z2', z3', z4', -⟩ := lw6.ms.ps.idx (k := .i64) (i := 0) (show (0 : Nat) < 2 by decide)
          have z2'' : idxV 21 x5 (.int .i64 0) = some (.ptr lz 0 0) := z2'
          have e68 : lz = l7 := by
            have := z2''.symm.trans a1
            simp only [Option.some.injEq, V.ptr.injEq] at this
            exact this.1
          subst e68
          have eb2 := Option.some.inj (z3'.symm.trans a2)
          subst eb2
          have er6 : row6 = prRow ⟨(Z16.set 2 late).set 1 0, 0, 1, 5, 0, 0⟩ := Option.some.inj (a3.symm.trans z4')
          have hw6 : Wp ⟨(Z16.set 2 late).set 1 0, 0, 1, 5, 0, 0⟩ := hR5.len
          have hs6 : row6[17]? = some (.int .i64 1) := by rw [er6]; exact pr_state hw6
          have hs7 : row6[19]? = some (.int .i64 0) := by rw [er6]; exact pr_wait hw6
          have hs8 : row6[1]? = some (.int .u32 0) := by rw [er6]; exact prRow_reg hw6 (n := 1) (by decide)
          have a3' : bz.rows[0]? = some row6 := a3
          have a4' : 2 ≤ row6.length := a4
          have b3' : (bz.rows.set 0 (row6.take 1 ++ [.int .u32 0] ++ row6.drop 2))[0]? = some row7 := b3
          have b4' : 3 ≤ row7.length := b4
          have a8 : K6.floor ≤ lz := by rw [lw6.fl]; exact Nat.zero_le _
          have a9 : ¬ (lz = H1.next) := a5
          have a10 : ¬ (lz = K5.next) := a6
          have a11 : ¬ (lz = K2.next) := fun e => o8 (e ▸ a7)
          have a12 : ¬ (K5.next = lz) := fun e => a6 e.symm
          have a13 : ¬ (H1.next = lz) := fun e => a5 e.symm
          have a14 : ¬ (K2.next = lz) := fun e => a11 e.symm
          have a15 : decide (K5.next ≠ lz) = true := by simpa using a12
          have m6 := lw6.b0
          have m7 := lw6.b1
          have ga1 : aidxV 16 1 (.ptr lz 0 0) (.int .i64 1) = some (.ptr lz 0 1) := aidx16 (n := 1) (by decide)
          have ga2 : aidxV 16 1 (.ptr lz 0 0) (.int .i64 2) = some (.ptr lz 0 2) := aidx16 (n := 2) (by decide)
          (repeat' (first | (simp only [wp, extractV, w0, reduceIte, Nat.reduceAdd, Nat.reduceLT, Nat.reduceLeDiff, Nat.reduceEqDiff, z2'', a2, a3', a4', b3', b4', hs6, hs7, hs8, a8, a9, a10, a11, a12, a13, a14, a15, apartV, m6, m7, ga1, ga2, beq_self_eq_true, Bool.and_true]) | (with_reducible ((first | refine Run.gC ?_ ?_ | refine Run.gG ?_ ?_ | refine Run.gQ ?_ ?_) <;> intro hb <;> try simp only [hb]))))
          have hR8 : Rg ((((Z16.set 2 late).set 1 0).set 1 0).set 2 0) := hR7.set (by decide) (by unfold RegOk; omega)
          refine Run.gen (P := fun K7 => Lw K7 H1.next K5.next (sX ((((Z16.set 2 late).set 1 0).set 1 0).set 2 0) ((Z16.set 1 0).set 1 0) 1 0 [1, 0] [] true) a b c d x5 y5 z5 u5 v5 w5 g5 pr5 ∧ (∃ w12, K7.blk K2.next = some ⟨12, [w12]⟩ ∧ w12.length = 12) ∧ K2.next < K7.next) ⟨lw8, ⟨w16, by rw [Heap.set_blk, if_neg a14, Heap.set_blk, if_neg a14]; exact hb16, hl16⟩, o6⟩ fun K7 hP7 => ?_
          obtain ⟨lw9, ⟨w17, hb17, hl17⟩, o9⟩ := hP7
          have hB9 := sX_b (st0 := 1) (w0 := 0) (up := true) hR8 hR6 (q := [1, 0]) (ts := []) (by decide) (by decide)
          have hOk9 := sX_ok hR8 hR6 (by decide) (.inl ⟨rfl, by decide⟩) q10 (.nil) (fun a h => by cases h) (up := true)
          have hC9 := (sX_can hR8 hR6 hOk9 hB9 ⟨k0, k1⟩).1 rfl
          have hD9 := do_mem hA 2 lw9.mp pS_b lw9.ms hB9 hOk9 (pc := 0) ⟨by decide, of_decide_eq_true rfl⟩ rfl ⟨k0, k1⟩ (call := 9) (by decide) (s' := doAwait pS (sX ((((Z16.set 2 late).set 1 0).set 1 0).set 2 0) ((Z16.set 1 0).set 1 0) 1 0 [1, 0] [] true) 0 tk)
            (fun hx hf => await_run hA 2 hx hf hC9 ⟨by decide, by decide⟩ rfl) (by rw [lw9.fl]; exact Nat.zero_le _)
          rw [wait_up (r0 := (((Z16.set 2 late).set 1 0).set 1 0).set 2 0) (show timeOk 0 by decide) rfl] at hD9
          refine hD9.mono fun r K9 ⟨l9, x9, y9, z9, u9, v9, w9, g9, pr9, e9, ms9, f9, hge9⟩ => ?_
          subst e9
          have el9 := ms9.eq
          subst el9
          have fk9 : K9.floor = 0 := f9.floor.trans lw9.fl
          have n9 := f9.next
          have hb17 := (f9.old K2.next o9 id).trans hb17
          have dr17 : w17.drop 12 = [] := List.drop_of_length_le (by omega)
          have l17 : 12 ≤ w17.length := by omega
          have fk9' : K9.floor ≤ K2.next := by omega
          have x1' : lenV x9 = some (i64 2) := ms9.ps.len
          have x2' : lenV y9 = some (i64 2) := ms9.q.len
          obtain ⟨lq, bq, q1', q2', q3', q4', -⟩ := ms9.ps.idx (k := .i64) (i := 0) (show (0 : Nat) < 2 by decide)
          have q2'' : idxV 21 x9 (.int .i64 0) = some (.ptr lq 0 0) := q2'
          have hw9 : Wp ⟨((((Z16.set 2 late).set 1 0).set 1 0).set 2 0).set 1 0, 0, 1, 5, 0, 0⟩ := (hR8.set (by decide) (by unfold RegOk; omega)).len
          have q4'' : bq.rows[0]? = some (prRow ⟨((((Z16.set 2 late).set 1 0).set 1 0).set 2 0).set 1 0, 0, 1, 5, 0, 0⟩) := q4'
          have hr9 : (prRow ⟨((((Z16.set 2 late).set 1 0).set 1 0).set 2 0).set 1 0, 0, 1, 5, 0, 0⟩)[1]? = some (.int .u32 0) := prRow_reg hw9 (n := 1) (by decide)
          have b1q := ms9.ps.loc_lt q1'
          have b2q := hge9 lq (List.mem_append_left _ (mem_lv.2 ⟨x9, by simp, q1'⟩))
          have b3q : ¬ (lq = K2.next) := by omega
          have gq : aidxV 16 1 (.ptr lq 0 0) (.int .i64 1) = some (.ptr lq 0 1) := aidx16 (n := 1) (by decide)
          (repeat' (first | (simp only [wp, extractV, w0, reduceIte, Nat.reduceAdd, Nat.reduceLT, Nat.reduceLeDiff, Nat.reduceEqDiff, eq_nili, hb17, dr17, l17, fk9', x1', x2', q2'', q3', q4'', hr9, b3q, gq, pr_state hw9, beq_self_eq_true]) | (with_reducible ((first | refine Run.gC ?_ ?_ | refine Run.gG ?_ ?_ | refine Run.gQ ?_ ?_) <;> intro hb <;> try simp only [hb]))))
      · have hle : late ≤ 1000000 := hto.resolve_right hfv
        obtain ⟨hl0, hl1⟩ := id hl
        rw [if_neg hfv, if_pos (show 0 ≤ tk + late by omega)] at hD
        have e1 : (late == 4294967295) = false := by simpa using hfv
        have e2 : decide (1000000 < late) = false := by rw [decide_eq_false_iff_not]; omega
        have hadd : arithV .add (i64 tk) (i64 late) = some (i64 (tk + late)) := arith_add (by omega) (by omega)
        have hcv : convI .i64 (.int .u32 late) = some (i64 late) := conv_i64 (by omega) (by omega)
        have heq : eqV (.agg [.int, .int]) false (.agg [i64 0, i64 (tk + late)]) (.agg [i64 0, i64 (tk + late)]) = some true := by simp [eqV, eqCs, eqC]
        refine hD.mono fun r K2 ⟨l2, x2, y2, z2, u2, v2, w2, g2, pr2, e2, ms2, f2, hge2⟩ => ?_
        subst e2
        have el2 := ms2.eq
        subst el2
        have fk2 : K2.floor = 0 := f2.floor.trans lw.fl
        have hlx : lenV x2 = some (i64 2) := ms2.ps.len
        obtain ⟨lx2, bk2, p1, p2, p3, p4, -⟩ := ms2.ps.idx (k := .i64) (i := 0) (show (0 : Nat) < 2 by decide)
        have p2' : idxV 21 x2 (.int .i64 0) = some (.ptr lx2 0 0) := p2
        have p5 := ms2.ps.loc_lt p1
        have c1 : ¬ (lx2 = K2.next) := by omega
        have c2 : ¬ (lx2 = K2.next + 1) := by omega
        have c3 : ¬ (lx2 = K2.next + 1 + 1) := by omega
        have c4 : ¬ (K2.next = K2.next + 1) := by omega
        have c5 : ¬ (K2.next = K2.next + 1 + 1) := by omega
        have c6 : ¬ (K2.next + 1 = K2.next + 1 + 1) := by omega
        have c7 : K2.floor ≤ K2.next + 1 := by omega
        have c8 : K2.floor ≤ K2.next + 1 + 1 := by omega
        have c9 : K2.floor ≤ K2.next := by omega
        have d1 : ¬ (K2.next + 1 = K2.next) := by omega
        have d2 : ¬ (K2.next + 1 + 1 = K2.next) := by omega
        have d3 : ¬ (K2.next + 1 + 1 = K2.next + 1) := by omega
        have ha1 : aidxV 16 1 (.ptr (K2.next + 1 + 1) 0 0) (.int .i64 1) = some (.ptr (K2.next + 1 + 1) 0 1) := aidx16 (n := 1) (by decide)
        have hly : lenV y2 = some (i64 1) := ms2.q.len
        have hlz : lenV z2 = some (i64 1) := ms2.ts.len
        obtain ⟨lt2, bt2, r6, r7, r8, r9, -⟩ := ms2.ts.idx (k := .i64) (i := 0) (show (0 : Nat) < 1 by decide)
        have r7' : idxV 2 z2 (.int .i64 0) = some (.ptr lt2 0 0) := r7
        have r9' : bt2.rows[0]? = some [i64 0, i64 (tk + late)] := r9
        have r10 := ms2.ts.loc_lt r6
        have s1 : ¬ (lt2 = K2.next) := by omega
        have s2 : ¬ (lt2 = K2.next + 1) := by omega
        have s3 : ¬ (lt2 = K2.next + 1 + 1) := by omega
        obtain ⟨ly2, bl2, p6, p7, p8, p9, -⟩ := ms2.q.idx (k := .i64) (i := 0) (show (0 : Nat) < 1 by decide)
        have p7' : idxV 1 y2 (.int .i64 0) = some (.ptr ly2 0 0) := p7
        have p9' : bl2.rows[0]? = some [i64 1] := p9
        have p10 := ms2.q.loc_lt p6
        have h1 : ¬ (ly2 = K2.next) := by omega
        have h2 : ¬ (ly2 = K2.next + 1) := by omega
        have h3 : ¬ (ly2 = K2.next + 1 + 1) := by omega
        have hw0 : Wp ⟨Z16.set 2 late, 0, 2, 5, 2, 0⟩ := hR.len
        have p4' : bk2.rows[0]? = some (prRow ⟨Z16.set 2 late, 0, 2, 5, 2, 0⟩) := p4
        (repeat' (first | (simp only [wp, extractV, w0, reduceIte, Nat.reduceAdd, Nat.reduceLT, Nat.reduceLeDiff, Nat.reduceEqDiff, eq_nili, c7, c8, c9, c1, c2, c3, c4, c5, c6, d1, d2, d3, h1, h2, h3, hlx, hly, hlz, p2', p3, p4', p7', p8, p9', pr_len hw0, pr_take hw0, ha1, pr_state hw0, pr_wait hw0, pr_obj hw0, e0, e1, e2, r7', r8, r9', s1, s2, s3, hadd, hcv, heq, buildV, fill, putRow, beq_self_eq_true]) | (with_reducible ((first | refine Run.gC ?_ ?_ | refine Run.gG ?_ ?_ | refine Run.gQ ?_ ?_) <;> intro hb <;> try simp only [hb]))))
        refine Run.gen (P := fun K3 => Lw K3 H1.next (K2.next + 1) (sX (Z16.set 2 late) Z16 2 2 [1] [⟨0, tk + late⟩] false) a b c d x2 y2 z2 u2 v2 w2 g2 pr2 ∧ (∃ w12, K3.blk K2.next = some ⟨12, [w12]⟩ ∧ w12.length = 12) ∧ K2.next < K3.next ∧ K2.next ∉ lv [x2, y2, z2, u2, v2, w2, g2] ++ lr pr2 ∧ K2.next ≠ H1.next ∧ K2.next ∉ lv [a, b, c, d]) ?_ fun K3 hP => ?_
        · have nlt := lw.lt
          have f3 := f2.next
          have fr := (((((Frame.add (H := K2) ⟨12, [[.int .i64 0, .int .i64 0, .int .i64 0, .nils, .nils, .nils, .nils, .nils, .nils, .nils, .nils, .int .i64 0]]⟩ (fun _ => False)).st (Nat.le_refl _) ⟨12, [[i64 0, i64 0, i64 0, x2, y2, z2, u2, v2, w2, g2, .nils, i64 0]]⟩).ad ⟨10, [[.int .i64 0, .int .i64 0, .int .i64 0, .nils, .nils, .nils, .nils, .nils, .nils, .nils]]⟩).st (l := K2.next + 1) (Nat.le_succ _) ⟨10, [[i64 0, i64 0, i64 0, x2, y2, z2, u2, v2, w2, g2]]⟩).ad ⟨21, [[.int .u32 0, .int .u32 0, .int .u32 0, .int .u32 0, .int .u32 0, .int .u32 0, .int .u32 0, .int .u32 0, .int .u32 0, .int .u32 0, .int .u32 0, .int .u32 0, .int .u32 0, .int .u32 0, .int .u32 0, .int .u32 0, .int .u32 0, .int .i64 0, .int .i64 0, .int .i64 0, .int .i64 0]]⟩).st (l := K2.next + 1 + 1) (by omega) ⟨21, [prRow ⟨Z16.set 2 late, 0, 2, 5, 2, 0⟩]⟩
          refine ⟨⟨fk2, ?_, ?_, ⟨by show H1.next < K2.next + 3; omega, by show K2.next + 1 < K2.next + 3; omega, by omega⟩, (lw.mp.frame f2 fun _ _ => id).frame fr fun _ _ => id, ms2.frame fr fun _ _ => id, fun n hn => ?_, fun n hn => ?_⟩, ⟨[i64 0, i64 0, i64 0, x2, y2, z2, u2, v2, w2, g2, .nils, i64 0], ?_, rfl⟩, by show K2.next < K2.next + 3; omega, fun hm => by have := ms2.lt hm; omega, by omega, fun hm => by have := (lw.m0 _ hm).2.2; omega⟩
          · exact (fr.old H1.next (by omega) id).trans ((f2.old H1.next nlt.1 id).trans lw.b0)
          · simp only [Heap.set_blk, Heap.add_blk, Heap.add_next, Heap.set_next, c4, c5, c6, d1, d2, d3, if_true, if_false]
            first | done | rfl
          · have := lw.m0 n hn
            exact ⟨this.1, by omega, by show n < K2.next + 3; omega⟩
          · have h1 := ms2.lt hn
            have h2 := hge2 n hn
            refine ⟨by omega, by omega, fun hm => ?_⟩
            have := (lw.m0 n hm).2.2
            omega
          · simp only [Heap.set_blk, Heap.add_blk, Heap.add_next, Heap.set_next, c4, c5, c6, d1, d2, d3, if_true, if_false]
            first | done | rfl
        · obtain ⟨lw3, ⟨w12, hb12, hl12⟩, o1, o2, o3, o4⟩ := hP
          have hB3 := sX_b (st0 := 2) (w0 := 2) (up := false) hR Rg.zero (q := [1]) (ts := [⟨0, tk + late⟩]) (by decide) (of_decide_eq_true rfl)
          obtain ⟨ly3, bk3, row3, i1, i2, i3, i4, i5, i6, i7, lw4⟩ := lw3.reg hB3 (pc := 1) ⟨by decide, of_decide_eq_true rfl⟩ (k := 1) (by decide) 0
          have i1' : idxV 21 x2 (.int .i64 1) = some (.ptr ly3 1 0) := i1
          have i3' : bk3.rows[1]? = some row3 := i3
          have i4' : 2 ≤ row3.length := i4
          have ia : aidxV 16 1 (.ptr ly3 1 0) (.int .i64 1) = some (.ptr ly3 1 1) := aidx16 (n := 1) (by decide)
          have i8 : K3.floor ≤ ly3 := by rw [lw3.fl]; exact Nat.zero_le _
          have i9 : ¬ (ly3 = K2.next) := fun e => o2 (e ▸ i7)
          have i10 : ¬ (K2.next = ly3) := fun e => i9 e.symm
          have i11 : ¬ (H1.next = ly3) := fun e => i5 e.symm
          have i12 : ¬ (K2.next + 1 = ly3) := fun e => i6 e.symm
          have j0 := lw3.b0
          have j1 := lw3.b1
          (repeat' (first | (simp only [wp, extractV, w0, reduceIte, Nat.reduceAdd, Nat.reduceLT, Nat.reduceLeDiff, Nat.reduceEqDiff, i8, i1', ia, i2, i3', i4', i5, i6, i9, i10, i11, i12, j0, j1]) | (with_reducible ((first | refine Run.gC ?_ ?_ | refine Run.gG ?_ ?_ | refine Run.gQ ?_ ?_) <;> intro hb <;> try simp only [hb]))))
          refine Run.gen (P := fun K4 => Lw K4 H1.next (K2.next + 1) (sX (Z16.set 2 late) (Z16.set 1 0) 2 2 [1] [⟨0, tk + late⟩] false) a b c d x2 y2 z2 u2 v2 w2 g2 pr2 ∧ (∃ w12, K4.blk K2.next = some ⟨12, [w12]⟩ ∧ w12.length = 12) ∧ K2.next < K4.next) ⟨lw4, ⟨w12, by rw [Heap.set_blk, if_neg i10]; exact hb12, hl12⟩, o1⟩ fun K4 hP4 => ?_
          obtain ⟨lw5, ⟨w13, hb13, hl13⟩, o5⟩ := hP4
          have hR1 : Rg (Z16.set 1 0) := Rg.zero.set (by decide) (by unfold RegOk; omega)
          have hB5 := sX_b (st0 := 2) (w0 := 2) (up := false) hR hR1 (q := [1]) (ts := [⟨0, tk + late⟩]) (by decide) (of_decide_eq_true rfl)
          have hOk5 := sX_ok hR hR1 (by decide) (.inr ⟨rfl, rfl, rfl⟩) q1 (one_ts (d := tk + late) ⟨show 0 ≤ tk + late by omega, show tk + late ≤ 1010000 by omega⟩) one_p (up := false)
          have hC5 := (sX_can hR hR1 hOk5 hB5 ⟨k0, k1⟩).2
          have hD5 := do_mem hA 2 lw5.mp pS_b lw5.ms hB5 hOk5 (pc := 1) ⟨by decide, of_decide_eq_true rfl⟩ rfl ⟨k0, k1⟩ (call := 7) (by decide) (s' := doSet pS (sX (Z16.set 2 late) (Z16.set 1 0) 2 2 [1] [⟨0, tk + late⟩] false) 1)
            (fun hx hf => set_run hA 2 hx hf hC5 ⟨by decide, by decide⟩ rfl) (by rw [lw5.fl]; exact Nat.zero_le _)
          rw [set_for rfl (.inr ⟨_, rfl⟩)] at hD5
          refine hD5.mono fun r K5 ⟨l5, x5, y5, z5, u5, v5, w5, g5, pr5, e5, ms5, f5, hge5⟩ => ?_
          subst e5
          have el5 := ms5.eq
          subst el5
          have fk5 : K5.floor = 0 := f5.floor.trans lw5.fl
          have n5 := f5.next
          have hb13 := (f5.old K2.next o5 id).trans hb13
          have dr13 : w13.drop 12 = [] := List.drop_of_length_le (by omega)
          have l13 : 12 ≤ w13.length := by omega
          have y1 : lenV x5 = some (i64 2) := ms5.ps.len
          have y2' : lenV u5 = some (i64 1) := ms5.up.len
          have y3 : lenV z5 = some (i64 0) := ms5.ts.len
          have y4 : lenV y5 = some (i64 2) := ms5.q.len
          have u1 : ¬ (K5.next = K2.next) := by omega
          have u2 : ¬ (K2.next = K5.next) := by omega
          have u3 : K5.floor ≤ K2.next := by omega
          have u4 : K5.floor ≤ K5.next := by omega
          obtain ⟨lu5, bu5, v1, v2', v3, v4, -⟩ := ms5.up.idx (k := .i64) (i := 0) (show (0 : Nat) < 1 by decide)
          have v2'' : idxV 1 u5 (.int .i64 0) = some (.ptr lu5 0 0) := v2'
          have v4' : bu5.rows[0]? = some [.bool true] := v4
          obtain ⟨ly5, by5, t1, t2, t3, t4, -⟩ := ms5.q.idx (k := .i64) (i := 1) (show (1 : Nat) < 2 by decide)
          have t2' : idxV 1 y5 (.int .i64 1) = some (.ptr ly5 1 0) := t2
          have t4' : by5.rows[1]? = some [i64 0] := t4
          have b1u := ms5.up.loc_lt v1
          have b2u := hge5 lu5 (List.mem_append_left _ (mem_lv.2 ⟨u5, by simp, v1⟩))
          have b1y := ms5.q.loc_lt t1
          have b2y := hge5 ly5 (List.mem_append_left _ (mem_lv.2 ⟨y5, by simp, t1⟩))
          have w1 : ¬ (lu5 = K2.next) := by omega
          have w2 : ¬ (lu5 = K5.next) := by omega
          have w3 : ¬ (ly5 = K2.next) := by omega
          have w4 : ¬ (ly5 = K5.next) := by omega
          (repeat' (first | (simp only [wp, extractV, w0, reduceIte, Nat.reduceAdd, Nat.reduceLT, Nat.reduceLeDiff, Nat.reduceEqDiff, eq_nili, hb13, dr13, l13, y1, y2', y3, y4, u1, u2, u3, u4, v2'', v3, v4', t2', t3, t4', w1, w2, w3, w4, beq_self_eq_true]) | (with_reducible ((first | refine Run.gC ?_ ?_ | refine Run.gG ?_ ?_ | refine Run.gQ ?_ ?_) <;> intro hb <;> try simp only [hb]))))
          have hR5 : Rg ((Z16.set 2 late).set 1 0) := hR.set (by decide) (by unfold RegOk; omega)
          have hR6 : Rg ((Z16.set 1 0).set 1 0) := hR1.set (by decide) (by unfold RegOk; omega)
          refine Run.gen (P := fun K6 => Lw K6 H1.next K5.next (sX ((Z16.set 2 late).set 1 0) ((Z16.set 1 0).set 1 0) 1 0 [1, 0] [] true) a b c d x5 y5 z5 u5 v5 w5 g5 pr5 ∧ (∃ w12, K6.blk K2.next = some ⟨12, [w12]⟩ ∧ w12.length = 12) ∧ K2.next < K6.next ∧ K2.next ≠ K5.next ∧ K2.next ∉ lv [x5, y5, z5, u5, v5, w5, g5] ++ lr pr5) ?_ fun K6 hP6 => ?_
          · have nlt := lw5.lt
            have fr : Frame K5 (((K5.set K2.next ⟨12, [[i64 0, i64 0, i64 0, x5, y5, z5, u5, v5, w5, g5, .nils, i64 0]]⟩).add ⟨10, [[.int .i64 0, .int .i64 0, .int .i64 0, .nils, .nils, .nils, .nils, .nils, .nils, .nils]]⟩).set K5.next ⟨10, [[i64 0, i64 0, i64 0, x5, y5, z5, u5, v5, w5, g5]]⟩) (fun q => q = K2.next) :=
              ⟨Nat.le_succ _, rfl, fun q hq hne => by rw [Heap.set_blk, if_neg (by omega), Heap.add_blk, if_neg (by show ¬ q = K5.next; omega), Heap.set_blk, if_neg hne]⟩
            have hno : ∀ n ∈ lv [x5, y5, z5, u5, v5, w5, g5] ++ lr pr5, n ≠ K2.next := fun n hn e => by have := hge5 n hn; omega
            refine ⟨⟨fk5, ?_, ?_, ⟨by show H1.next < K5.next + 1; omega, by show K5.next < K5.next + 1; omega, by omega⟩, (lw5.mp.frame f5 fun _ _ => id).frame fr fun n hn e => (o4 (e ▸ hn)), ms5.frame fr hno, fun n hn => ?_, fun n hn => ?_⟩, ⟨[i64 0, i64 0, i64 0, x5, y5, z5, u5, v5, w5, g5, .nils, i64 0], ?_, rfl⟩, by show K2.next < K5.next + 1; omega, by omega, fun hm => hno _ hm rfl⟩
            · exact (fr.old H1.next (by omega) (fun e => o3 e.symm)).trans ((f5.old H1.next nlt.1 id).trans lw5.b0)
            · rw [Heap.set_blk, if_pos rfl]
              all_goals rfl
            · have := lw5.m0 n hn
              exact ⟨this.1, by omega, by show n < K5.next + 1; omega⟩
            · have h1 := ms5.lt hn
              have h2 := hge5 n hn
              refine ⟨by omega, by omega, fun hm => ?_⟩
              have := (lw5.m0 n hm).2.2
              omega
            · rw [Heap.set_blk, if_neg u2, Heap.add_blk, if_neg (by show ¬ K2.next = K5.next; omega), Heap.set_blk, if_pos rfl]
              all_goals rfl
          obtain ⟨lw6, ⟨w16, hb16, hl16⟩, o6, o7, o8⟩ := hP6
          have hB6 := sX_b (st0 := 1) (w0 := 0) (up := true) hR5 hR6 (q := [1, 0]) (ts := []) (by decide) (by decide)
          obtain ⟨l6, bk6, row6, a1, a2, a3, a4, a5, a6, a7, lw7⟩ := lw6.reg hB6 (pc := 0) ⟨by decide, of_decide_eq_true rfl⟩ (k := 1) (by decide) 0
          have hR7 : Rg (((Z16.set 2 late).set 1 0).set 1 0) := hR5.set (by decide) (by unfold RegOk; omega)
          have hB7 := sX_b (st0 := 1) (w0 := 0) (up := true) hR7 hR6 (q := [1, 0]) (ts := []) (by decide) (by decide)
          obtain ⟨l7, bk7, row7, b1, b2, b3, b4, b5, b6, b7, lw8⟩ := Lw.reg (s := sX (((Z16.set 2 late).set 1 0).set 1 0) ((Z16.set 1 0).set 1 0) 1 0 [1, 0] [] true) lw7 hB7 (pc := 0) ⟨by decide, of_decide_eq_true rfl⟩ (k := 2) (by decide) 0
          have e67 : l7 = l6 := by
            have := b1.symm.trans a1
            simp only [Option.some.injEq, V.ptr.injEq] at this
            exact this.1
          subst e67
          rw [Heap.set_blk, if_pos rfl] at b2
          have eb := Option.some.inj b2
          subst eb
          obtain ⟨lz, bz, z1', z2', z3', z4', -⟩ := lw6.ms.ps.idx (k := .i64) (i := 0) (show (0 : Nat) < 2 by decide)
          have z2'' : idxV 21 x5 (.int .i64 0) = some (.ptr lz 0 0) := z2'
          have e68 : lz = l7 := by
            have := z2''.symm.trans a1
            simp only [Option.some.injEq, V.ptr.injEq] at this
            exact this.1
          subst e68
          have eb2 := Option.some.inj (z3'.symm.trans a2)
          subst eb2
          have er6 : row6 = prRow ⟨(Z16.set 2 late).set 1 0, 0, 1, 5, 0, 0⟩ := Option.some.inj (a3.symm.trans z4')
          have hw6 : Wp ⟨(Z16.set 2 late).set 1 0, 0, 1, 5, 0, 0⟩ := hR5.len
          have hs6 : row6[17]? = some (.int .i64 1) := by rw [er6]; exact pr_state hw6
          have hs7 : row6[19]? = some (.int .i64 0) := by rw [er6]; exact pr_wait hw6
          have hs8 : row6[1]? = some (.int .u32 0) := by rw [er6]; exact prRow_reg hw6 (n := 1) (by decide)
          have a3' : bz.rows[0]? = some row6 := a3
          have a4' : 2 ≤ row6.length := a4
          have b3' : (bz.rows.set 0 (row6.take 1 ++ [.int .u32 0] ++ row6.drop 2))[0]? = some row7 := b3
          have b4' : 3 ≤ row7.length := b4
          have a8 : K6.floor ≤ lz := by rw [lw6.fl]; exact Nat.zero_le _
          have a9 : ¬ (lz = H1.next) := a5
          have a10 : ¬ (lz = K5.next) := a6
          have a11 : ¬ (lz = K2.next) := fun e => o8 (e ▸ a7)
          have a12 : ¬ (K5.next = lz) := fun e => a6 e.symm
          have a13 : ¬ (H1.next = lz) := fun e => a5 e.symm
          have a14 : ¬ (K2.next = lz) := fun e => a11 e.symm
          have a15 : decide (K5.next ≠ lz) = true := by simpa using a12
          have m6 := lw6.b0
          have m7 := lw6.b1
          have ga1 : aidxV 16 1 (.ptr lz 0 0) (.int .i64 1) = some (.ptr lz 0 1) := aidx16 (n := 1) (by decide)
          have ga2 : aidxV 16 1 (.ptr lz 0 0) (.int .i64 2) = some (.ptr lz 0 2) := aidx16 (n := 2) (by decide)
          (repeat' (first | (simp only [wp, extractV, w0, reduceIte, Nat.reduceAdd, Nat.reduceLT, Nat.reduceLeDiff, Nat.reduceEqDiff, z2'', a2, a3', a4', b3', b4', hs6, hs7, hs8, a8, a9, a10, a11, a12, a13, a14, a15, apartV, m6, m7, ga1, ga2, beq_self_eq_true, Bool.and_true]) | (with_reducible ((first | refine Run.gC ?_ ?_ | refine Run.gG ?_ ?_ | refine Run.gQ ?_ ?_) <;> intro hb <;> try simp only [hb]))))
          have hR8 : Rg ((((Z16.set 2 late).set 1 0).set 1 0).set 2 0) := hR7.set (by decide) (by unfold RegOk; omega)
          refine Run.gen (P := fun K7 => Lw K7 H1.next K5.next (sX ((((Z16.set 2 late).set 1 0).set 1 0).set 2 0) ((Z16.set 1 0).set 1 0) 1 0 [1, 0] [] true) a b c d x5 y5 z5 u5 v5 w5 g5 pr5 ∧ (∃ w12, K7.blk K2.next = some ⟨12, [w12]⟩ ∧ w12.length = 12) ∧ K2.next < K7.next) ⟨lw8, ⟨w16, by rw [Heap.set_blk, if_neg a14, Heap.set_blk, if_neg a14]; exact hb16, hl16⟩, o6⟩ fun K7 hP7 => ?_
          obtain ⟨lw9, ⟨w17, hb17, hl17⟩, o9⟩ := hP7
          have hB9 := sX_b (st0 := 1) (w0 := 0) (up := true) hR8 hR6 (q := [1, 0]) (ts := []) (by decide) (by decide)
          have hOk9 := sX_ok hR8 hR6 (by decide) (.inl ⟨rfl, by decide⟩) q10 (.nil) (fun a h => by cases h) (up := true)
          have hC9 := (sX_can hR8 hR6 hOk9 hB9 ⟨k0, k1⟩).1 rfl
          have hD9 := do_mem hA 2 lw9.mp pS_b lw9.ms hB9 hOk9 (pc := 0) ⟨by decide, of_decide_eq_true rfl⟩ rfl ⟨k0, k1⟩ (call := 9) (by decide) (s' := doAwait pS (sX ((((Z16.set 2 late).set 1 0).set 1 0).set 2 0) ((Z16.set 1 0).set 1 0) 1 0 [1, 0] [] true) 0 tk)
            (fun hx hf => await_run hA 2 hx hf hC9 ⟨by decide, by decide⟩ rfl) (by rw [lw9.fl]; exact Nat.zero_le _)
          rw [wait_up (r0 := (((Z16.set 2 late).set 1 0).set 1 0).set 2 0) (show timeOk 0 by decide) rfl] at hD9
          refine hD9.mono fun r K9 ⟨l9, x9, y9, z9, u9, v9, w9, g9, pr9, e9, ms9, f9, hge9⟩ => ?_
          subst e9
          have el9 := ms9.eq
          subst el9
          have fk9 : K9.floor = 0 := f9.floor.trans lw9.fl
          have n9 := f9.next
          have hb17 := (f9.old K2.next o9 id).trans hb17
          have dr17 : w17.drop 12 = [] := List.drop_of_length_le (by omega)
          have l17 : 12 ≤ w17.length := by omega
          have fk9' : K9.floor ≤ K2.next := by omega
          have x1' : lenV x9 = some (i64 2) := ms9.ps.len
          have x2' : lenV y9 = some (i64 2) := ms9.q.len
          obtain ⟨lq, bq, q1', q2', q3', q4', -⟩ := ms9.ps.idx (k := .i64) (i := 0) (show (0 : Nat) < 2 by decide)
          have q2'' : idxV 21 x9 (.int .i64 0) = some (.ptr lq 0 0) := q2'
          have hw9 : Wp ⟨((((Z16.set 2 late).set 1 0).set 1 0).set 2 0).set 1 0, 0, 1, 5, 0, 0⟩ := (hR8.set (by decide) (by unfold RegOk; omega)).len
          have q4'' : bq.rows[0]? = some (prRow ⟨((((Z16.set 2 late).set 1 0).set 1 0).set 2 0).set 1 0, 0, 1, 5, 0, 0⟩) := q4'
          have hr9 : (prRow ⟨((((Z16.set 2 late).set 1 0).set 1 0).set 2 0).set 1 0, 0, 1, 5, 0, 0⟩)[1]? = some (.int .u32 0) := prRow_reg hw9 (n := 1) (by decide)
          have b1q := ms9.ps.loc_lt q1'
          have b2q := hge9 lq (List.mem_append_left _ (mem_lv.2 ⟨x9, by simp, q1'⟩))
          have b3q : ¬ (lq = K2.next) := by omega
          have gq : aidxV 16 1 (.ptr lq 0 0) (.int .i64 1) = some (.ptr lq 0 1) := aidx16 (n := 1) (by decide)
          (repeat' (first | (simp only [wp, extractV, w0, reduceIte, Nat.reduceAdd, Nat.reduceLT, Nat.reduceLeDiff, Nat.reduceEqDiff, eq_nili, hb17, dr17, l17, fk9', x1', x2', q2'', q3', q4'', hr9, b3q, gq, pr_state hw9, beq_self_eq_true]) | (with_reducible ((first | refine Run.gC ?_ ?_ | refine Run.gG ?_ ?_ | refine Run.gQ ?_ ?_) <;> intro hb <;> try simp only [hb]))))
    · rw [wait_wrong (by rw [hz2]; exact hto) hz1] at hD
      have e0 : (late == 0) = false := by simpa using h0
      have e1 : (late == 4294967295) = false := by
        rw [beq_eq_false_iff_ne]
        exact fun e => hto (.inr e)
      have e2 : decide (1000000 < late) = true := by
        rw [decide_eq_true_eq]
        exact Int.not_le.1 fun e => hto (.inl e)
      refine hD.mono fun r K2 ⟨l2, x2, y2, z2, u2, v2, w2, g2, pr2, e2, ms2, f2, hge2⟩ => ?_
      subst e2
      have el2 := ms2.eq
      subst el2
      have fk2 : K2.floor = 0 := f2.floor.trans lw.fl
      have hlx : lenV x2 = some (i64 2) := ms2.ps.len
      obtain ⟨lx2, bk2, p1, p2, p3, p4, -⟩ := ms2.ps.idx (k := .i64) (i := 0) (show (0 : Nat) < 2 by decide)
      have p2' : idxV 21 x2 (.int .i64 0) = some (.ptr lx2 0 0) := p2
      have p5 := ms2.ps.loc_lt p1
      have c1 : ¬ (lx2 = K2.next) := by omega
      have c2 : ¬ (lx2 = K2.next + 1) := by omega
      have c3 : ¬ (lx2 = K2.next + 1 + 1) := by omega
      have c4 : ¬ (K2.next = K2.next + 1) := by omega
      have c5 : ¬ (K2.next = K2.next + 1 + 1) := by omega
      have c6 : ¬ (K2.next + 1 = K2.next + 1 + 1) := by omega
      have c7 : K2.floor ≤ K2.next + 1 := by omega
      have c8 : K2.floor ≤ K2.next + 1 + 1 := by omega
      have c9 : K2.floor ≤ K2.next := by omega
      have d1 : ¬ (K2.next + 1 = K2.next) := by omega
      have d2 : ¬ (K2.next + 1 + 1 = K2.next) := by omega
      have d3 : ¬ (K2.next + 1 + 1 = K2.next + 1) := by omega
      have ha1 : aidxV 16 1 (.ptr (K2.next + 1 + 1) 0 0) (.int .i64 1) = some (.ptr (K2.next + 1 + 1) 0 1) := aidx16 (n := 1) (by decide)
      have hly : lenV y2 = some (i64 2) := ms2.q.len
      have hlz : lenV z2 = some (i64 0) := ms2.ts.len
      have hw0 : Wp ⟨(Z16.set 2 late).set 1 4294967295, 0, 1, 5, 0, 0⟩ := (hR.set (by decide) (by unfold RegOk; omega)).len
      have p4' : bk2.rows[0]? = some (prRow ⟨(Z16.set 2 late).set 1 4294967295, 0, 1, 5, 0, 0⟩) := p4
      have hrg : (prRow ⟨(Z16.set 2 late).set 1 4294967295, 0, 1, 5, 0, 0⟩)[1]? = some (.int .u32 4294967295) := prRow_reg hw0 (n := 1) (by decide)
      (repeat' (first | (simp only [wp, extractV, w0, reduceIte, Nat.reduceAdd, Nat.reduceLT, Nat.reduceLeDiff, Nat.reduceEqDiff, eq_nili, c7, c8, c9, c1, c2, c3, c4, c5, c6, d1, d2, d3, hlx, hly, hlz, p2', p3, p4', pr_len hw0, pr_take hw0, ha1, hrg, pr_state hw0, e0, e1, e2, beq_self_eq_true]) | (with_reducible ((first | refine Run.gC ?_ ?_ | refine Run.gG ?_ ?_ | refine Run.gQ ?_ ?_) <;> intro hb <;> try simp only [hb]))))
end Sy
end Go.Fv.Tr
