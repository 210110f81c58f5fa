/-
  System calls: waiting, events. By an AI agent; no person has read it.
-/
import Derived.Test.YtekncgjkocgioaaGreatDoorFvP39
set_option linter.unusedVariables false
set_option linter.unusedSimpArgs false
set_option linter.unusedSectionVars false
/-! System calls: waiting, events. -/
namespace Go.Fv.Tr
open Go Go.Fv Go.Fv.Pl Go.Proofs
variable {G : GV}
namespace Sy
variable {l m : List V} {s : St} {p : Pn} {x y z a b c d x' y' z' u v w g : V} {pr : List (List V)} {k : List V} {H H' K : Heap} {i : Nat} {pc tk ft : Int} {rep : V}
def doWait (s:St) (pc tk wk o:Int):St :=
 if regAt s pc 2 = 0 then setR s pc 1 4294967294 else { s with t:=Tab.block s.t pc wk o (if regAt s pc 2 = 4294967295 then -1 else tk + regAt s pc 2) }
structure Can (s:St) (pc tk:Int):Prop where
 ok:TabOk s.t
 run:(at? s.t.ps pc).map Pr.state = some 1
 tk:0 ≤ tk ∧ tk ≤ 10000
 reg:∀ k,k < 16 → RegOk (regAt s pc k)
theorem q_table {vis:Nat → Bool} (n:Nat) (h:ClX H i p s pc tk rep ft a b c d x y z u v w g pr) (hf:H.floor = 0) (hv:∀ q,q < H.next → vis q = true) {Q:V → Heap → Prop}
  (q:∀ a1 b1 c1 H',IsTab a1 b1 c1 s.t → Frame H H' (fun _ => False) → Q (.agg [a1,b1,c1]) H'):Run (qrun vis (callV (cfg G) (sem (cfg G) (n + 3)) 85 [.ptr i 0 0])) H Q:=by
 refine Run.qAll (P:=fun r _ => ∃ a b c,r = .agg [a,b,c] ∧ IsTab a b c s.t) hv (fun K k1 k2 k3 => ?_) fun r K' H' ⟨a1,b1,c1,e,ht⟩ f _ _ => ?_
 ·exact (table_run n h k1 k3 k2).mono fun r K' ⟨e,f⟩ => ⟨f,e⟩
 ·subst e
  exact q _ _ _ _ ht f
theorem tab_bnd {t : Tab} (h : TabOk t) (ht : IsTab a b c t) : TbB t := ⟨ht.wp, (small_of h).1, (small_of h).2, (small_of h).3⟩
theorem Ans.yes {t u:Tab} {ok:Prop} {r:V} (h:Ans t ok u r) (h1:TabOk t) (h2:ok):∃ a b c,r = .tuple [.agg [a,b,c],.nili] ∧ IsTab a b c u:=by
 rcases h with ⟨_,_,h⟩ | ⟨g,_⟩ | ⟨_,g,_⟩
 ·exact h
 ·exact absurd h1 g
 ·exact absurd h2 g
theorem Can.inOk {pc tk:Int} (h:Can s pc tk):inOk s.t pc [1]:=by
 obtain ⟨q,h1,h2⟩:=Option.map_eq_some_iff.1 h.run
 exact ⟨q,h1,by simp [h2]⟩
theorem block_len (t : Tab) (n w o d : Int) : (Tab.block t n w o d).ps.length = t.ps.length := setP_len _ _ _
theorem Can.block {pc tk wk o d:Int} (h:Can s pc tk) (hb:blkOk wk o d):TabOk (Tab.block s.t pc wk o d):=by
 obtain ⟨q,h1,h2⟩:=Option.map_eq_some_iff.1 h.run
 exact TabOk.block h.ok h1 h2 hb
set_option maxRecDepth 20000 in
set_option maxHeartbeats 1000000 in
theorem wait_run (hA:BErrs G) (n:Nat) (h:ClX H i p s pc tk rep ft a b c d x y z u v w g pr) (hf:H.floor = 0) (hc:Can s pc tk) {wk o:Int} (hwk:2 ≤ wk ∧ wk ≤ 4) (ho:0 ≤ o) (hto:timeOk (regAt s pc 2)) :
  Run (callV (cfg G) (sem (cfg G) (n + 9)) 94 [.ptr i 0 0,i64 wk,i64 o]) H fun r H' => r = .tuple [] ∧ Cl H i p (doWait s pc tk wk o) pc tk rep ft (fp i x y z u v w g pr) H':=by
 have hb:=h.blk
 rw [callV_inl rfl,ferry_sys_caller_wait_eq]
 simp only [ferry_sys_caller_wait]
 (repeat' (first | (simp only [wp,extractV,w0,reduceIte,Nat.reduceAdd,Nat.reduceLT,Nat.reduceLeDiff,Nat.reduceEqDiff]) | (with_reducible ((first | refine Run.gC ?_ ?_ | refine Run.gG ?_ ?_ | refine Run.gQ ?_ ?_) <;> intro hb <;> try simp only [hb]))))
 refine reg_run (n + 7) h (n:=2) (by decide) ?_
 have hr2:=hc.reg 2 (by decide)
 by_cases h0:regAt s pc 2 = 0
 ·have e0:(regAt s pc 2 == 0) = true:=by simpa using h0
  (repeat' (first | (simp only [wp,extractV,w0,reduceIte,Nat.reduceAdd,Nat.reduceLT,Nat.reduceLeDiff,Nat.reduceEqDiff,e0]) | (with_reducible ((first | refine Run.gC ?_ ?_ | refine Run.gG ?_ ?_ | refine Run.gQ ?_ ?_) <;> intro hb <;> try simp only [hb]))))
  refine (answer_run (n + 7) h hf _).mono fun r H' e => ?_
  (repeat' (first | (simp only [wp,extractV,w0,reduceIte,Nat.reduceAdd,Nat.reduceLT,Nat.reduceLeDiff,Nat.reduceEqDiff]) | (with_reducible ((first | refine Run.gC ?_ ?_ | refine Run.gG ?_ ?_ | refine Run.gQ ?_ ?_) <;> intro hb <;> try simp only [hb]))))
  unfold doWait
  rw [if_pos h0]
  exact e.2
 have e0:(regAt s pc 2 == 0) = false:=by simpa using h0
 by_cases h1:regAt s pc 2 = 4294967295
 ·have e1:(regAt s pc 2 == 4294967295) = true:=by simpa using h1
  (repeat' (first | (simp only [wp,extractV,w0,reduceIte,Nat.reduceAdd,Nat.reduceLT,Nat.reduceLeDiff,Nat.reduceEqDiff,e0,e1]) | (with_reducible ((first | refine Run.gC ?_ ?_ | refine Run.gG ?_ ?_ | refine Run.gQ ?_ ?_) <;> intro hb <;> try simp only [hb]))))
  refine q_table (n + 5) h hf (fun q hq => visB_low hq _) fun a1 b1 c1 H1 ht f1 => ?_
  have h1':=h.frame f1 fun _ _ => id
  have hb1:=h1'.blk
  (repeat' (first | (simp only [wp,extractV,w0,reduceIte,Nat.reduceAdd,Nat.reduceLT,Nat.reduceLeDiff,Nat.reduceEqDiff,hb1,nil_ptr]) | (with_reducible ((first | refine Run.gC ?_ ?_ | refine Run.gG ?_ ?_ | refine Run.gQ ?_ ?_) <;> intro hb <;> try simp only [hb]))))
  have hbk:blkOk wk o (-1):=⟨by omega,ho,fun g => by omega,by omega,by omega⟩
  obtain ⟨r,er,hAns⟩:=block_spec (G:=G) hA.errs n ht pc wk o (-1)
  obtain ⟨a2,b2,c2,e2,ht2⟩:=Ans.yes hAns hc.ok ⟨hc.inOk,hbk⟩
  subst e2
  refine (AnsC.ret (c:=[]) er).q (Sees.nil _) (fun _ g => by cases g) fun r2 H2 e f2 => ?_
  subst e
  (repeat' (first | (simp only [wp,extractV,w0,reduceIte,Nat.reduceAdd,Nat.reduceLT,Nat.reduceLeDiff,Nat.reduceEqDiff]) | (with_reducible ((first | refine Run.gC ?_ ?_ | refine Run.gG ?_ ?_ | refine Run.gQ ?_ ?_) <;> intro hb <;> try simp only [hb]))))
  have n1:=f1.next
  have n2:=f2.next
  refine run_t (r:=.tuple []) (h1'.frame f2 fun _ _ => id) (fun q hl => by simp [visB,Heap.add_next,Heap.set_next,Heap.q_next,Heap.empty_next] at hl ⊢; omega) ((f2.floor.trans f1.floor).trans hf) (fun K hK hfK => change_run (n + 4) hK hfK ht2 (tab_bnd (hc.block hbk) ht2) (by rw [block_len]; exact h.pc.2)) fun H3 hC => ?_
  (repeat' (first | (simp only [wp,extractV,w0,reduceIte,Nat.reduceAdd,Nat.reduceLT,Nat.reduceLeDiff,Nat.reduceEqDiff]) | (with_reducible ((first | refine Run.gC ?_ ?_ | refine Run.gG ?_ ?_ | refine Run.gQ ?_ ?_) <;> intro hb <;> try simp only [hb]))))
  unfold doWait
  rw [if_neg h0,if_pos h1]
  obtain ⟨a3,b3,c3,d3,x3,y3,z3,u3,v3,w3,g3,pr3,hx3,hf3,f3⟩:=hC
  exact ⟨a3,b3,c3,d3,x3,y3,z3,u3,v3,w3,g3,pr3,hx3,fun q hq => (hf3 q hq).imp id fun g => by omega,⟨by have:=f3.next; omega,f3.floor.trans (f2.floor.trans f1.floor),fun q hq hne => (f3.old q (by omega) hne).trans ((f2.old q (by omega) id).trans (f1.old q hq id))⟩⟩
 ·have e1:(regAt s pc 2 == 4294967295) = false:=by simpa using h1
  have hle:regAt s pc 2 ≤ 1000000:=hto.resolve_right h1
  have htk:=hc.tk
  obtain ⟨r0,r1⟩:=hr2
  (repeat' (first | (simp only [wp,extractV,w0,reduceIte,Nat.reduceAdd,Nat.reduceLT,Nat.reduceLeDiff,Nat.reduceEqDiff,e0,e1]) | (with_reducible ((first | refine Run.gC ?_ ?_ | refine Run.gG ?_ ?_ | refine Run.gQ ?_ ?_) <;> intro hb <;> try simp only [hb]))))
  refine q_table (n + 5) h hf (fun q hq => visB_low hq _) fun a1 b1 c1 H1 ht f1 => ?_
  have h1':=h.frame f1 fun _ _ => id
  have hb1:=h1'.blk
  have ad:arithV .add (i64 tk) (i64 (regAt s pc 2)) = some (i64 (tk + regAt s pc 2)):=arith_add (by omega) (by omega)
  (repeat' (first | (simp only [wp,extractV,w0,reduceIte,Nat.reduceAdd,Nat.reduceLT,Nat.reduceLeDiff,Nat.reduceEqDiff,hb1,nil_ptr,conv_i64 (show -9223372036854775808 ≤ regAt s pc 2 by omega) (show regAt s pc 2 ≤ 9223372036854775807 by omega),ad]) | (with_reducible ((first | refine Run.gC ?_ ?_ | refine Run.gG ?_ ?_ | refine Run.gQ ?_ ?_) <;> intro hb <;> try simp only [hb]))))
  have hbk:blkOk wk o (tk + regAt s pc 2):=⟨by omega,ho,fun g => by omega,by omega,by omega⟩
  obtain ⟨r,er,hAns⟩:=block_spec (G:=G) hA.errs n ht pc wk o (tk + regAt s pc 2)
  obtain ⟨a2,b2,c2,e2,ht2⟩:=Ans.yes hAns hc.ok ⟨hc.inOk,hbk⟩
  subst e2
  refine (AnsC.ret (c:=[]) er).q (Sees.nil _) (fun _ g => by cases g) fun r2 H2 e f2 => ?_
  subst e
  (repeat' (first | (simp only [wp,extractV,w0,reduceIte,Nat.reduceAdd,Nat.reduceLT,Nat.reduceLeDiff,Nat.reduceEqDiff]) | (with_reducible ((first | refine Run.gC ?_ ?_ | refine Run.gG ?_ ?_ | refine Run.gQ ?_ ?_) <;> intro hb <;> try simp only [hb]))))
  have n1:=f1.next
  have n2:=f2.next
  refine run_t (r:=.tuple []) (h1'.frame f2 fun _ _ => id) (fun q hl => by simp [visB,Heap.add_next,Heap.set_next,Heap.q_next,Heap.empty_next] at hl ⊢; omega) ((f2.floor.trans f1.floor).trans hf) (fun K hK hfK => change_run (n + 4) hK hfK ht2 (tab_bnd (hc.block hbk) ht2) (by rw [block_len]; exact h.pc.2)) fun H3 hC => ?_
  (repeat' (first | (simp only [wp,extractV,w0,reduceIte,Nat.reduceAdd,Nat.reduceLT,Nat.reduceLeDiff,Nat.reduceEqDiff]) | (with_reducible ((first | refine Run.gC ?_ ?_ | refine Run.gG ?_ ?_ | refine Run.gQ ?_ ?_) <;> intro hb <;> try simp only [hb]))))
  unfold doWait
  rw [if_neg h0,if_neg h1]
  obtain ⟨a3,b3,c3,d3,x3,y3,z3,u3,v3,w3,g3,pr3,hx3,hf3,f3⟩:=hC
  exact ⟨a3,b3,c3,d3,x3,y3,z3,u3,v3,w3,g3,pr3,hx3,fun q hq => (hf3 q hq).imp id fun g => by omega,⟨by have:=f3.next; omega,f3.floor.trans (f2.floor.trans f1.floor),fun q hq hne => (f3.old q (by omega) hne).trans ((f2.old q (by omega) id).trans (f1.old q hq id))⟩⟩
theorem cl_comp {F F1:List Nat} {s2:St} {H1 H2:Heap} {rep2:V} {ft2:Int} (hf1:∀ n ∈ F1,n ∈ F ∨ H.next ≤ n) (f1:Frame H H1 (fun n => n ∈ F)) (h2:Cl H1 i p s2 pc tk rep2 ft2 F1 H2):Cl H i p s2 pc tk rep2 ft2 F H2:=by
 obtain ⟨a2,b2,c2,d2,x2,y2,z2,u2,v2,w2,g2,pr2,hx2,hf2,f2⟩:=h2
 have hn:=f1.next
 refine ⟨a2,b2,c2,d2,x2,y2,z2,u2,v2,w2,g2,pr2,hx2,fun n hn' => ?_,⟨Nat.le_trans f1.next f2.next,f2.floor.trans f1.floor,fun n hn' hne => ?_⟩⟩
 ·rcases hf2 n hn' with h | h
  ·exact hf1 n h
  ·exact .inr (by omega)
 ·refine (f2.old n (by omega) fun g => ?_).trans (f1.old n hn' hne)
  rcases hf1 n g with h | h
  ·exact hne h
  ·omega
theorem StB.up' {s : St} (h : StB s) {up' : List Bool} (hl : up'.length = s.up.length) : StB { s with up := up' } := ⟨h.wp, h.t, by show up'.length ≤ room; rw [hl]; exact h.up, h.sems, h.ports, h.pages, h.msgs, h.data⟩
set_option maxRecDepth 20000 in
theorem up_at (h:ClX H i p s pc tk rep ft a b c d x y z u v w g pr) {n:Int} (h0:0 ≤ n) (hn:n < s.up.length):∃ lu bk,idxV 1 u (.int .i64 n) = some (.ptr lu n.toNat 0) ∧ H.blk lu = some bk ∧ bk.rows[n.toNat]? = some (boR (s.up[n.toNat]'(by omega))) ∧ n.toNat < bk.rows.length ∧ H.floor ≤ lu ∧ lu ≠ i ∧
  ∀ e:Bool,Cl H i p { s with up:=s.up.set n.toNat e } pc tk rep ft (fp i x y z u v w g pr) (H.set lu ⟨bk.sz,bk.rows.set n.toNat (boR e)⟩):=by
 obtain ⟨l,ms⟩:=h.ms
 have hlt:n.toNat < (s.up.map boR).length:=by rw [List.length_map]; omega
 obtain ⟨lu,bk,h1,h2,h3,h4,h5⟩:=ms.up.idx (k:=.i64) hlt
 rw [Int.toNat_of_nonneg h0] at h2
 rw [List.getElem_map] at h4
 have hmem:lu ∈ lv [x,y,z,u,v,w,g] ++ lr pr:=List.mem_append_left _ (mem_lv.2 ⟨u,by simp,h1⟩)
 have hne:lu ≠ i:=fun e => h.no (e ▸ hmem)
 refine ⟨lu,bk,h2,h3,h4,(List.getElem?_eq_some_iff.1 h4).1,h5,hne,fun e => ?_⟩
 obtain ⟨d1,d2⟩:=nd_ne (A:=[x,y,z]) (B:=[v,w,g]) ms.nd h1
 have f:Frame H (H.set lu ⟨bk.sz,bk.rows.set n.toNat (boR e)⟩) (fun m => m = lu):=Frame.set _ _ rfl
 refine ⟨a,b,c,d,x,y,z,u,v,w,g,pr,⟨by rw [Heap.set_blk,if_neg (Ne.symm hne)]; exact h.blk,h.lt,h.pn,⟨_,rfl,ms.ps.frame f (d1 _ (by simp)),ms.q.frame f (d1 _ (by simp)),ms.ts.frame f (d1 _ (by simp)),?_,ms.sems.frame f (d1 _ (by simp)),ms.ports.frame f (d1 _ (by simp)),ms.pages.frame f (d1 _ (by simp)),ms.row.frame f d2,ms.nd⟩,h.no,h.pc,h.sb.up' (by simp)⟩,fun q hq => .inl hq,Frame.set _ _ (List.mem_cons_of_mem _ hmem)⟩
 have hz:=ms.up.put (i:=n.toNat) h1 h3 (boR e)
 show Own _ u 1 ((s.up.set n.toNat e).map boR)
 rw [List.map_set]
 exact hz
def doAwait (p:Pn) (s:St) (pc tk:Int):St :=
 if regAt s pc 1 < p.ev then
  if timeOk (regAt s pc 2) then (if nth? s.up (regAt s pc 1) = some true then setR s pc 1 0 else doWait s pc tk 2 (regAt s pc 1))
  else setR s pc 1 4294967295
 else setR s pc 1 4294967295
set_option maxRecDepth 20000 in
set_option maxHeartbeats 1000000 in
theorem await_run (hA : BErrs G) (n : Nat) (h : ClX H i p s pc tk rep ft a b c d x y z u v w g pr) (hf : H.floor = 0) (hc : Can s pc tk) (hev : 0 ≤ p.ev ∧ p.ev ≤ 8) (hup : (s.up.length : Int) = p.ev) :
    Run (callV (cfg G) (sem (cfg G) (n + 10)) 48 [.ptr i 0 0]) H fun r H' => r = .tuple [] ∧ Cl H i p (doAwait p s pc tk) pc tk rep ft (fp i x y z u v w g pr) H' := by
  have hb := h.blk
  have hr1 := hc.reg 1 (by decide)
  rw [callV_inl rfl, ferry_sys_caller_await_eq]
  simp only [ferry_sys_caller_await]
  (repeat' (first | (simp only [wp, extractV, w0, reduceIte, Nat.reduceAdd, Nat.reduceLT, Nat.reduceLeDiff, Nat.reduceEqDiff, hb, nil_ptr]) | (with_reducible ((first | refine Run.gC ?_ ?_ | refine Run.gG ?_ ?_ | refine Run.gQ ?_ ?_) <;> intro hb <;> try simp only [hb]))))
  refine index_run (n + 7) h hf hr1 (by omega) (fun h1 => ?_) fun h1 H1 hC => ?_
  · have hin : 0 ≤ regAt s pc 1 ∧ regAt s pc 1 < s.up.length := ⟨hr1.1, by omega⟩
    (repeat' (first | (simp only [wp, extractV, w0, reduceIte, Nat.reduceAdd, Nat.reduceLT, Nat.reduceLeDiff, Nat.reduceEqDiff]) | (with_reducible ((first | refine Run.gC ?_ ?_ | refine Run.gG ?_ ?_ | refine Run.gQ ?_ ?_) <;> intro hb <;> try simp only [hb]))))
    refine timeout_run (n + 7) h hf (fun h2 => ?_) fun h2 H1 hC => ?_
    · obtain ⟨lu, bk, g1, g2, g3, g4, g5, g6, g7⟩ := up_at h hin.1 hin.2
      unfold doAwait
      rw [if_pos h1, if_pos h2, nth_in hin.1 hin.2]
      cases hu : s.up[(regAt s pc 1).toNat]'(by omega) with
      | true =>
        rw [hu] at g3
        (repeat' (first | (simp only [wp, extractV, w0, reduceIte, Nat.reduceAdd, Nat.reduceLT, Nat.reduceLeDiff, Nat.reduceEqDiff, hb, nil_ptr, g1, g2, g3, boR]) | (with_reducible ((first | refine Run.gC ?_ ?_ | refine Run.gG ?_ ?_ | refine Run.gQ ?_ ?_) <;> intro hb <;> try simp only [hb]))))
        refine (answer_run (n + 8) h hf _).mono fun r H' e => ?_
        (repeat' (first | (simp only [wp, extractV, w0, reduceIte, Nat.reduceAdd, Nat.reduceLT, Nat.reduceLeDiff, Nat.reduceEqDiff]) | (with_reducible ((first | refine Run.gC ?_ ?_ | refine Run.gG ?_ ?_ | refine Run.gQ ?_ ?_) <;> intro hb <;> try simp only [hb]))))
        exact e.2
      | false =>
        rw [hu] at g3
        (repeat' (first | (simp only [wp, extractV, w0, reduceIte, Nat.reduceAdd, Nat.reduceLT, Nat.reduceLeDiff, Nat.reduceEqDiff, hb, nil_ptr, g1, g2, g3, boR]) | (with_reducible ((first | refine Run.gC ?_ ?_ | refine Run.gG ?_ ?_ | refine Run.gQ ?_ ?_) <;> intro hb <;> try simp only [hb]))))
        refine (wait_run hA n h hf hc (wk := 2) (by decide) hin.1 h2).mono fun r H' e => ?_
        (repeat' (first | (simp only [wp, extractV, w0, reduceIte, Nat.reduceAdd, Nat.reduceLT, Nat.reduceLeDiff, Nat.reduceEqDiff]) | (with_reducible ((first | refine Run.gC ?_ ?_ | refine Run.gG ?_ ?_ | refine Run.gQ ?_ ?_) <;> intro hb <;> try simp only [hb]))))
        rw [if_neg (by simp)]
        exact e.2
    · (repeat' (first | (simp only [wp, extractV, w0, reduceIte, Nat.reduceAdd, Nat.reduceLT, Nat.reduceLeDiff, Nat.reduceEqDiff]) | (with_reducible ((first | refine Run.gC ?_ ?_ | refine Run.gG ?_ ?_ | refine Run.gQ ?_ ?_) <;> intro hb <;> try simp only [hb]))))
      unfold doAwait
      rw [if_pos h1, if_neg h2]
      exact hC
  · (repeat' (first | (simp only [wp, extractV, w0, reduceIte, Nat.reduceAdd, Nat.reduceLT, Nat.reduceLeDiff, Nat.reduceEqDiff]) | (with_reducible ((first | refine Run.gC ?_ ?_ | refine Run.gG ?_ ?_ | refine Run.gQ ?_ ?_) <;> intro hb <;> try simp only [hb]))))
    unfold doAwait
    rw [if_neg (by omega)]
    exact hC
def doSet (p:Pn) (s:St) (pc:Int):St :=
 if regAt s pc 1 < p.ev then setR { s with up:=s.up.set (regAt s pc 1).toNat true,t:=s.t.wakes (fun _ => 0) (wt s.t.ps 2 (regAt s pc 1)) } pc 1 0
 else setR s pc 1 4294967295
set_option maxRecDepth 20000 in
set_option maxHeartbeats 1000000 in
theorem set_run (hA:BErrs G) (n:Nat) (h:ClX H i p s pc tk rep ft a b c d x y z u v w g pr) (hf:H.floor = 0) (hc:Can s pc tk) (hev:0 ≤ p.ev ∧ p.ev ≤ 8) (hup:(s.up.length:Int) = p.ev) :
  Run (callV (cfg G) (sem (cfg G) (n + 10)) 46 [.ptr i 0 0]) H fun r H' => r = .tuple [] ∧ Cl H i p (doSet p s pc) pc tk rep ft (fp i x y z u v w g pr) H':=by
 have hb:=h.blk
 have hr1:=hc.reg 1 (by decide)
 rw [callV_inl rfl,ferry_sys_caller_set_eq]
 simp only [ferry_sys_caller_set]
 (repeat' (first | (simp only [wp,extractV,w0,reduceIte,Nat.reduceAdd,Nat.reduceLT,Nat.reduceLeDiff,Nat.reduceEqDiff,hb,nil_ptr]) | (with_reducible ((first | refine Run.gC ?_ ?_ | refine Run.gG ?_ ?_ | refine Run.gQ ?_ ?_) <;> intro hb <;> try simp only [hb]))))
 refine index_run (n + 7) h hf hr1 (by omega) (fun h1 => ?_) fun h1 H1 hC => ?_
 ·have hin:0 ≤ regAt s pc 1 ∧ regAt s pc 1 < s.up.length:=⟨hr1.1,by omega⟩
  obtain ⟨lu,bk,g1,g2,g3,g4,g5,g6,g7⟩:=up_at h hin.1 hin.2
  have g7:=g7 true
  have g3':bk.rows[(regAt s pc 1).toNat]? = some [.bool (s.up[(regAt s pc 1).toNat]'(by omega))]:=g3
  (repeat' (first | (simp only [wp,extractV,w0,reduceIte,Nat.reduceAdd,Nat.reduceLT,Nat.reduceLeDiff,Nat.reduceEqDiff,hb,nil_ptr,g1,g2,g3',g5]) | (with_reducible ((first | refine Run.gC ?_ ?_ | refine Run.gG ?_ ?_ | refine Run.gQ ?_ ?_) <;> intro hb <;> try simp only [hb]))))
  have g7':Cl H i p { s with up:=s.up.set (regAt s pc 1).toNat true } pc tk rep ft (fp i x y z u v w g pr) (H.set lu ⟨bk.sz,bk.rows.set (regAt s pc 1).toNat [.bool true]⟩):=g7
  generalize H.set lu ⟨bk.sz,bk.rows.set (regAt s pc 1).toNat [.bool true]⟩ = H1 at *
  obtain ⟨a1,b1,c1,d1,x1,y1,z1,u1,v1,w1,q1,pr1,hx1,hf1,f1⟩:=g7'
  have fl1:H1.floor = 0:=f1.floor.trans hf
  refine (table_run (n + 6) hx1 rfl (fun _ _ => rfl) (by omega)).mono fun r H2 ⟨⟨ta,tb,tc,er,ht⟩,f2⟩ => ?_
  subst er
  obtain ⟨rw',ew,hw⟩:=wakeAll_spec (G:=G) (hA.at_ _ rfl) hA.errs (n + 1) ht 2 (regAt s pc 1) 0
  have hw':∃ a b c,rw' = .tuple [.agg [a,b,c],.nili] ∧ IsTab a b c (s.t.wakes (fun _ => 0) (wt s.t.ps 2 (regAt s pc 1))):=by
   rcases hw with ⟨_,h⟩ | ⟨g,_⟩
   ·exact h
   ·exact absurd hc.ok g
  obtain ⟨va,vb,vc,e2,ht2⟩:=hw'
  subst e2
  (repeat' (first | (simp only [wp,extractV,w0,reduceIte,Nat.reduceAdd,Nat.reduceLT,Nat.reduceLeDiff,Nat.reduceEqDiff,ew]) | (with_reducible ((first | refine Run.gC ?_ ?_ | refine Run.gG ?_ ?_ | refine Run.gQ ?_ ?_) <;> intro hb <;> try simp only [hb]))))
  have hok:TabOk (s.t.wakes (fun _ => 0) (wt s.t.ps 2 (regAt s pc 1))):=hc.ok.wakes (wt_nodup _ _ _) (wt_wl _ _).st
  refine (change_run (n + 5) (hx1.frame f2 fun _ _ => id) (f2.floor.trans fl1) ht2 (tab_bnd hok ht2) (by rw [wakes_len]; exact h.pc.2)).mono fun r H3 ⟨_,hC3⟩ => ?_
  obtain ⟨a3,b3,c3,d3,x3,y3,z3,u3,v3,w3,q3,pr3,hx3,hf3,f3⟩:=hC3
  refine (answer_run (n + 8) hx3 (f3.floor.trans (f2.floor.trans fl1)) 0).mono fun r H4 ⟨_,hC4⟩ => ?_
  (repeat' (first | (simp only [wp,extractV,w0,reduceIte,Nat.reduceAdd,Nat.reduceLT,Nat.reduceLeDiff,Nat.reduceEqDiff]) | (with_reducible ((first | refine Run.gC ?_ ?_ | refine Run.gG ?_ ?_ | refine Run.gQ ?_ ?_) <;> intro hb <;> try simp only [hb]))))
  unfold doSet
  rw [if_pos h1]
  have n1:=f1.next
  have n2:=f2.next
  have n3:=f3.next
  exact cl_comp hf1 f1 (cl_comp (F1:=fp i x1 y1 z1 u1 v1 w1 q1 pr1) (fun q hq => .inl hq) (f2.mono fun _ _ g => g.elim) (cl_comp hf3 f3 hC4))
 ·(repeat' (first | (simp only [wp,extractV,w0,reduceIte,Nat.reduceAdd,Nat.reduceLT,Nat.reduceLeDiff,Nat.reduceEqDiff]) | (with_reducible ((first | refine Run.gC ?_ ?_ | refine Run.gG ?_ ?_ | refine Run.gQ ?_ ?_) <;> intro hb <;> try simp only [hb]))))
  unfold doSet
  rw [if_neg (by omega)]
  exact hC
end Sy
end Go.Fv.Tr
