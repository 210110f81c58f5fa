/-
  The long region of valid's rules, cut in two. By an AI agent; no person has read it.
-/
import Derived.Test.YtekncgjkocgioaaGreatDoorFvP30
set_option linter.unusedVariables false
set_option linter.unusedSimpArgs false
set_option linter.unusedSectionVars false
/-! The long region of valid's rules, cut in two. -/
namespace Go.Fv.Tr
open Go Go.Fv
set_option maxRecDepth 100000
theorem rules_cut (G:GV) (call:CV) (x0:V):ferry_valid_asked_rules G call x0 = rulesHead G call x0:=rfl
end Go.Fv.Tr
namespace Go.Fv
open Go
theorem visB_low {n l:Nat} (h:l < n) (bs:List (Nat × Nat × Bool)):visB n bs l = true:=by simp [visB,h]
end Go.Fv
namespace Go.Fv.Tr
open Go Go.Fv Go.Fv.Pl Go.Proofs
variable {G:GV}
namespace Sy
variable {l m:List V} {s:St} {p:Pn} {x y z a b c d x' y' z' u v w g:V} {pr:List (List V)} {k:List V} {C:List (Nat × Blk)}
def marksR (p:Pn) (s:St) (b1 b2 b3:Bool):List V:=[.bool b1,.bool b2,.bool b3,.bool (decide (Rule p s 4)),.bool (decide (Rule p s 5)),.bool (decide (Rule p s 6)),.bool (decide (Rule p s 7)),.bool (decide (Rule p s 8)),.bool (decide (Rule p s 9)),.bool (decide (Rule p s 10)),
 .bool (decide (Rule p s 11)),.bool (decide (Rule p s 12)),.bool (decide (Rule p s 13)),.bool (decide (Rule p s 14)),.bool (decide (Rule p s 15)),.bool (decide (Rule p s 16)),.bool (decide (Rule p s 17))]
theorem build17 (a1 a2 a3 a4 a5 a6 a7 a8 a9 a10 a11 a12 a13 a14 a15 a16 a17:Bool):buildV [.bool false,.bool false,.bool false,.bool false,.bool false,.bool false,.bool false,.bool false,.bool false,.bool false,.bool false,.bool false,.bool false,.bool false,.bool false,.bool false,.bool false] [(0,1,.bool a1),(1,1,.bool a2),(2,1,.bool a3),(3,1,.bool a4),(4,1,.bool a5),(5,1,.bool a6),(6,1,.bool a7),(7,1,.bool a8),(8,1,.bool a9),(9,1,.bool a10),(10,1,.bool a11),(11,1,.bool a12),(12,1,.bool a13),(13,1,.bool a14),(14,1,.bool a15),(15,1,.bool a16),(16,1,.bool a17)]
  = some (.agg [.bool a1,.bool a2,.bool a3,.bool a4,.bool a5,.bool a6,.bool a7,.bool a8,.bool a9,.bool a10,.bool a11,.bool a12,.bool a13,.bool a14,.bool a15,.bool a16,.bool a17]):=by
 simp only [buildV,fill,putRow,cells_bool,Option.bind_some,List.length_cons,List.length_nil,List.take_succ_cons,List.take_zero,List.drop_succ_cons,List.drop_zero,List.cons_append,List.nil_append,Nat.reduceAdd,Nat.reduceLeDiff,if_true]
theorem notEx {l:List Int}:(!decide (∃ q ∈ l,¬ CtOk q)) = decide (∀ q ∈ l,CtOk q):=by
 rw [← decide_not,decide_eq_decide]
 simp
theorem marks_of {b1 b2 b3:Bool} {a4:Bool} (h4:a4 = decide (Rule p s 4)) {a5:Bool} (h5:a5 = decide (Rule p s 5)) {a6:Bool} (h6:a6 = decide (Rule p s 6)) {a7:Bool} (h7:a7 = decide (Rule p s 7)) {a8:Bool} (h8:a8 = decide (Rule p s 8)) {a9:Bool} (h9:a9 = decide (Rule p s 9)) {a10:Bool} (h10:a10 = decide (Rule p s 10)) {a11:Bool} (h11:a11 = decide (Rule p s 11)) {a12:Bool} (h12:a12 = decide (Rule p s 12)) {a13:Bool} (h13:a13 = decide (Rule p s 13)) {a14:Bool} (h14:a14 = decide (Rule p s 14)) {a15:Bool} (h15:a15 = decide (Rule p s 15)) {a16:Bool} (h16:a16 = decide (Rule p s 16)) {a17:Bool} (h17:a17 = decide (Rule p s 17)):(tupV [V.agg [.bool b1,.bool b2,.bool b3,.bool a4,.bool a5,.bool a6,.bool a7,.bool a8,.bool a9,.bool a10,.bool a11,.bool a12,.bool a13,.bool a14,.bool a15,.bool a16,.bool a17]]).getD 0 .undef = .agg (marksR p s b1 b2 b3):=by
 subst h4 h5 h6 h7 h8 h9 h10 h11 h12 h13 h14 h15 h16 h17
 rfl
set_option maxRecDepth 100000 in
set_option maxHeartbeats 4000000 in
theorem tail_run (n:Nat) (h:AsS [i64 p.id,.bool p.mob,a,b,c,i64 p.ev,d,i64 s.id,i64 s.fr,i64 s.ep,x,y,z,u,v,w,g] p s a b c d x y z u v w g pr) (b1 b2 b3:Bool) {H:Heap} (hb0:H.blk 0 = some ⟨17,[[i64 p.id,.bool p.mob,a,b,c,i64 p.ev,d,i64 s.id,i64 s.fr,i64 s.ep,x,y,z,u,v,w,g]]⟩) (hb1:H.blk 1 = some ⟨17,[[.bool false,.bool false,.bool false,.bool false,.bool false,.bool false,.bool false,.bool false,.bool false,.bool false,.bool false,.bool false,.bool false,.bool false,.bool false,.bool false,.bool false]]⟩)
  (hC:Sees (capC 3 2 p s a b c d x y z u v w g) H) (hf:H.floor = 0) (hn:4 ≤ H.next) {n11 n13 n15 n17 n19 n21 n23 n25 n27 n29 n31 n33 n35 n37 n39 n41 n43 n45 n47 n49 n51 n53 n55 n57 n59 n61 n63 n65 n67 n69 n71 n73 n75 n77 n79 n81 n83 n85 n87 n89 n91 n93 n95 n97 n99 n101 n103 n105 n107 n109 n111 n113 n115 n117 n119:Nat} :
  Run (rulesTail G (sem (cfg G) (n + 6)) (.ptr 0 0 0) (.ptr 1 0 0) (.ptr 2 0 0) (.ptr 3 0 0) 4 n11 n13 n15 n17 (.bool b1) n19 n21 n23 n25 n27 n29 n31 n33 (.bool b2) n35 n37 n39 n41 n43 n45 n47 n49 n51 n53 n55 n57 n59 n61 n63 n65 n67 n69 n71 n73 n75 n77 n79 n81 n83 n85 n87 n89 n91 n93 n95 n97 n99 n101 n103 n105 n107 n109 n111 n113 n115 n117 (.bool b3) n119) H fun r _ => r.2.getD 0 .undef = .agg (marksR p s b1 b2 b3):=by
 have hv:∀ {bs:List (Nat × Nat × Bool)},∀ t ∈ capC 3 2 p s a b c d x y z u v w g,visB 4 bs t.1 = true:=fun t hx => by
  refine visB_low ?_ _
  simp only [capC,List.mem_cons,List.not_mem_nil,or_false] at hx
  rcases hx with rfl | rfl
  ·show 3 < 4; decide
  ·show 2 < 4; decide
 obtain ⟨-,⟨_,hp⟩,_,hs⟩:=id h
 have hw:=hs.t.wp
 have hb3:=(hC _ (List.mem_cons_self ..)).2
 simp only [] at hb3
 simp only [rulesTail]
 (repeat' (first | (simp only [wp,extractV,w0,reduceIte,Nat.reduceAdd,Nat.reduceLT,Nat.reduceLeDiff,Nat.reduceEqDiff,hb0,hb3,List.length_cons]) | (with_reducible ((first | apply xC | apply xG | apply xQ) <;> intro hb <;> try simp only [hb]))))
 refine (procs_ans (n + 5) h (R:=NumOk) fun q hq => by rw [callFn0]; exact .ret (numbers_spec (n + 3) (hw q hq))).q hC hv fun _ H' e f => ?_
 subst e
 have hC:=hC.frame f
 have hb0:=(f.old 0 (by omega) id).trans hb0
 have hb1:=(f.old 1 (by omega) id).trans hb1
 have hb3:=(f.old 3 (by omega) id).trans hb3
 have hn:=Nat.le_trans hn f.next
 have hf:=f.floor.trans hf
 (repeat' (first | (simp only [wp,extractV,w0,reduceIte,Nat.reduceAdd,Nat.reduceLT,Nat.reduceLeDiff,Nat.reduceEqDiff,hb0,hb3,List.length_cons]) | (with_reducible ((first | apply xC | apply xG | apply xQ) <;> intro hb <;> try simp only [hb]))))
 refine (procs_ans (n + 5) h (R:=fun q => (q.wait ≠ 0 ↔ q.state = 2)) fun q hq => by rw [callFn0]; exact rules1_ans (n + 4) (hw q hq)).q hC hv fun _ H' e f => ?_
 subst e
 have hC:=hC.frame f
 have hb0:=(f.old 0 (by omega) id).trans hb0
 have hb1:=(f.old 1 (by omega) id).trans hb1
 have hb3:=(f.old 3 (by omega) id).trans hb3
 have hn:=Nat.le_trans hn f.next
 have hf:=f.floor.trans hf
 (repeat' (first | (simp only [wp,extractV,w0,reduceIte,Nat.reduceAdd,Nat.reduceLT,Nat.reduceLeDiff,Nat.reduceEqDiff,hb0,hb3,List.length_cons]) | (with_reducible ((first | apply xC | apply xG | apply xQ) <;> intro hb <;> try simp only [hb]))))
 refine (procs_ans (n + 5) h (R:=fun q => ObjOk p q.wait q.obj) fun q hq => by rw [callFnB]; exact .ret (object_spec (n + 3) h (hw q hq))).q hC hv fun _ H' e f => ?_
 subst e
 have hC:=hC.frame f
 have hb0:=(f.old 0 (by omega) id).trans hb0
 have hb1:=(f.old 1 (by omega) id).trans hb1
 have hb3:=(f.old 3 (by omega) id).trans hb3
 have hn:=Nat.le_trans hn f.next
 have hf:=f.floor.trans hf
 (repeat' (first | (simp only [wp,extractV,w0,reduceIte,Nat.reduceAdd,Nat.reduceLT,Nat.reduceLeDiff,Nat.reduceEqDiff,hb0,hb3,List.length_cons]) | (with_reducible ((first | apply xC | apply xG | apply xQ) <;> intro hb <;> try simp only [hb]))))
 refine (AnsC.ret (queue_spec (n + 4) h)).q hC hv fun _ H' e f => ?_
 subst e
 have hC:=hC.frame f
 have hb0:=(f.old 0 (by omega) id).trans hb0
 have hb1:=(f.old 1 (by omega) id).trans hb1
 have hb3:=(f.old 3 (by omega) id).trans hb3
 have hn:=Nat.le_trans hn f.next
 have hf:=f.floor.trans hf
 (repeat' (first | (simp only [wp,extractV,w0,reduceIte,Nat.reduceAdd,Nat.reduceLT,Nat.reduceLeDiff,Nat.reduceEqDiff,hb0,hb3,List.length_cons]) | (with_reducible ((first | apply xC | apply xG | apply xQ) <;> intro hb <;> try simp only [hb]))))
 refine (AnsC.ret (rise_spec (n + 4) h)).q hC hv fun _ H' e f => ?_
 subst e
 have hC:=hC.frame f
 have hb0:=(f.old 0 (by omega) id).trans hb0
 have hb1:=(f.old 1 (by omega) id).trans hb1
 have hb3:=(f.old 3 (by omega) id).trans hb3
 have hn:=Nat.le_trans hn f.next
 have hf:=f.floor.trans hf
 (repeat' (first | (simp only [wp,extractV,w0,reduceIte,Nat.reduceAdd,Nat.reduceLT,Nat.reduceLeDiff,Nat.reduceEqDiff,hb0,hb3,List.length_cons]) | (with_reducible ((first | apply xC | apply xG | apply xQ) <;> intro hb <;> try simp only [hb]))))
 refine (AnsC.ret (timed_spec (n + 4) h)).q hC hv fun _ H' e f => ?_
 subst e
 have hC:=hC.frame f
 have hb0:=(f.old 0 (by omega) id).trans hb0
 have hb1:=(f.old 1 (by omega) id).trans hb1
 have hb3:=(f.old 3 (by omega) id).trans hb3
 have hn:=Nat.le_trans hn f.next
 have hf:=f.floor.trans hf
 (repeat' (first | (simp only [wp,extractV,w0,reduceIte,Nat.reduceAdd,Nat.reduceLT,Nat.reduceLeDiff,Nat.reduceEqDiff,hb0,hb3,List.length_cons]) | (with_reducible ((first | apply xC | apply xG | apply xQ) <;> intro hb <;> try simp only [hb]))))
 refine (containsI_ans (G:=G) (n + 4) hs.sems hs.big.2.1 (R:=fun q => ¬ CtOk q) fun q hq => by rw [callFn0]; exact rules2_ans (G:=G) (n + 2) q).q hC hv fun _ H' e f => ?_
 subst e
 have hC:=hC.frame f
 have hb0:=(f.old 0 (by omega) id).trans hb0
 have hb1:=(f.old 1 (by omega) id).trans hb1
 have hb3:=(f.old 3 (by omega) id).trans hb3
 have hn:=Nat.le_trans hn f.next
 have hf:=f.floor.trans hf
 (repeat' (first | (simp only [wp,extractV,w0,reduceIte,Nat.reduceAdd,Nat.reduceLT,Nat.reduceLeDiff,Nat.reduceEqDiff,hb0,hb3,List.length_cons]) | (with_reducible ((first | apply xC | apply xG | apply xQ) <;> intro hb <;> try simp only [hb]))))
 refine (ports_ans (n + 5) h (R:=holdOk) fun q row r hr => by rw [callFn0]; exact rules3_ans (n + 1) q hr).q hC hv fun _ H' e f => ?_
 subst e
 have hC:=hC.frame f
 have hb0:=(f.old 0 (by omega) id).trans hb0
 have hb1:=(f.old 1 (by omega) id).trans hb1
 have hb3:=(f.old 3 (by omega) id).trans hb3
 have hn:=Nat.le_trans hn f.next
 have hf:=f.floor.trans hf
 (repeat' (first | (simp only [wp,extractV,w0,reduceIte,Nat.reduceAdd,Nat.reduceLT,Nat.reduceLeDiff,Nat.reduceEqDiff,hb0,hb3,List.length_cons]) | (with_reducible ((first | apply xC | apply xG | apply xQ) <;> intro hb <;> try simp only [hb]))))
 refine (ports_ans (n + 5) h (R:=ageOk) fun q row r hr => by rw [callFn0]; exact rules4_ans (n + 3) q hr).q hC hv fun _ H' e f => ?_
 subst e
 have hC:=hC.frame f
 have hb0:=(f.old 0 (by omega) id).trans hb0
 have hb1:=(f.old 1 (by omega) id).trans hb1
 have hb3:=(f.old 3 (by omega) id).trans hb3
 have hn:=Nat.le_trans hn f.next
 have hf:=f.floor.trans hf
 (repeat' (first | (simp only [wp,extractV,w0,reduceIte,Nat.reduceAdd,Nat.reduceLT,Nat.reduceLeDiff,Nat.reduceEqDiff,hb0,hb3,List.length_cons]) | (with_reducible ((first | apply xC | apply xG | apply xQ) <;> intro hb <;> try simp only [hb]))))
 refine (AnsC.ret (rights_spec (n + 5) h)).q hC hv fun _ H' e f => ?_
 subst e
 have hC:=hC.frame f
 have hb0:=(f.old 0 (by omega) id).trans hb0
 have hb1:=(f.old 1 (by omega) id).trans hb1
 have hb3:=(f.old 3 (by omega) id).trans hb3
 have hn:=Nat.le_trans hn f.next
 have hf:=f.floor.trans hf
 (repeat' (first | (simp only [wp,extractV,w0,reduceIte,Nat.reduceAdd,Nat.reduceLT,Nat.reduceLeDiff,Nat.reduceEqDiff,hb0,hb3,List.length_cons]) | (with_reducible ((first | apply xC | apply xG | apply xQ) <;> intro hb <;> try simp only [hb]))))
 refine (procs_ans (n + 5) h (R:=fun q => upOk p s q.wait q.obj) fun q hq => by rw [callFn2]; exact rules5_ans (n + 3) h (hw q hq)).q hC hv fun _ H' e f => ?_
 subst e
 have hC:=hC.frame f
 have hb0:=(f.old 0 (by omega) id).trans hb0
 have hb1:=(f.old 1 (by omega) id).trans hb1
 have hb3:=(f.old 3 (by omega) id).trans hb3
 have hn:=Nat.le_trans hn f.next
 have hf:=f.floor.trans hf
 (repeat' (first | (simp only [wp,extractV,w0,reduceIte,Nat.reduceAdd,Nat.reduceLT,Nat.reduceLeDiff,Nat.reduceEqDiff,hb0,hb3,List.length_cons]) | (with_reducible ((first | apply xC | apply xG | apply xQ) <;> intro hb <;> try simp only [hb]))))
 refine (procs_ans (n + 5) h (R:=fun q => semOk p s q.wait q.obj) fun q hq => by rw [callFn2]; exact rules6_ans (n + 3) h (hw q hq)).q hC hv fun _ H' e f => ?_
 subst e
 have hC:=hC.frame f
 have hb0:=(f.old 0 (by omega) id).trans hb0
 have hb1:=(f.old 1 (by omega) id).trans hb1
 have hb3:=(f.old 3 (by omega) id).trans hb3
 have hn:=Nat.le_trans hn f.next
 have hf:=f.floor.trans hf
 (repeat' (first | (simp only [wp,extractV,w0,reduceIte,Nat.reduceAdd,Nat.reduceLT,Nat.reduceLeDiff,Nat.reduceEqDiff,hb0,hb3,List.length_cons]) | (with_reducible ((first | apply xC | apply xG | apply xQ) <;> intro hb <;> try simp only [hb]))))
 refine (procs_ans (n + 5) h (R:=fun q => porOk p s q.wait q.obj) fun q hq => by rw [callFnB]; exact .ret (queued_spec (n + 3) h (hw q hq))).q hC hv fun _ H' e f => ?_
 subst e
 have hC:=hC.frame f
 have hb0:=(f.old 0 (by omega) id).trans hb0
 have hb1:=(f.old 1 (by omega) id).trans hb1
 have hb3:=(f.old 3 (by omega) id).trans hb3
 have hn:=Nat.le_trans hn f.next
 have hf:=f.floor.trans hf
 (repeat' (first | (simp only [wp,extractV,w0,reduceIte,Nat.reduceAdd,Nat.reduceLT,Nat.reduceLeDiff,Nat.reduceEqDiff,hb0,hb3,List.length_cons]) | (with_reducible ((first | apply xC | apply xG | apply xQ) <;> intro hb <;> try simp only [hb]))))
 refine (ports_ans (n + 5) h (R:=emptyOk) fun q row r hr => by rw [callFn0]; exact rules7_ans (n + 3) q hr).q hC hv fun _ H' e f => ?_
 subst e
 have hC:=hC.frame f
 have hb0:=(f.old 0 (by omega) id).trans hb0
 have hb1:=(f.old 1 (by omega) id).trans hb1
 have hb3:=(f.old 3 (by omega) id).trans hb3
 have hn:=Nat.le_trans hn f.next
 have hf:=f.floor.trans hf
 (repeat' (first | (simp only [wp,extractV,w0,reduceIte,Nat.reduceAdd,Nat.reduceLT,Nat.reduceLeDiff,Nat.reduceEqDiff,hb1,hf,notEx,build17]) | (with_reducible ((first | apply xC | apply xG | apply xQ) <;> intro hb <;> try simp only [hb]))))
 exact marks_of (decide_eq_decide.2 Iff.rfl) (decide_eq_decide.2 Iff.rfl) (decide_eq_decide.2 Iff.rfl) (decide_eq_decide.2 Iff.rfl) (decide_eq_decide.2 Iff.rfl) (decide_eq_decide.2 Iff.rfl) (decide_eq_decide.2 Iff.rfl) (decide_eq_decide.2 Iff.rfl) (decide_eq_decide.2 Iff.rfl) (decide_eq_decide.2 Iff.rfl) (decide_eq_decide.2 Iff.rfl) (decide_eq_decide.2 Iff.rfl) (decide_eq_decide.2 Iff.rfl) (decide_eq_decide.2 Iff.rfl)
end Sy
end Go.Fv.Tr
namespace Go.Fv.Tr
open Go Go.Fv Go.Fv.Pl Go.Proofs
variable {G:GV}
namespace Sy
variable {l m:List V} {s:St} {p:Pn} {x y z a b c d x' y' z' u v w g:V} {pr:List (List V)} {k:List V} {C:List (Nat × Blk)}
def rulesR (p:Pn) (s:St):List V:=marksR p s (decide (Rule p s 1)) (decide (Rule p s 2)) (decide (Rule p s 3))
theorem marks_eq {b1 b2 b3:Bool} (h1:b1 = decide (Rule p s 1)) (h2:b2 = decide (Rule p s 2)) (h3:b3 = decide (Rule p s 3)):V.agg (marksR p s b1 b2 b3) = .agg (rulesR p s):=by
 subst h1 h2 h3
 rfl
theorem decF {P:Prop} [Decidable P] (h:¬ P):false = decide P:=by simp [h]
theorem decI {P:Prop} [Decidable P] {b:Bool} (h:b = true ↔ P):b = decide P:=by cases b <;> simp_all
set_option maxRecDepth 100000 in
set_option maxHeartbeats 4000000 in
theorem rules_spec (n : Nat) (h : AsS k p s a b c d x y z u v w g pr) : callV (cfg G) (sem (cfg G) (n + 7)) 104 [.agg k] = M.ret (.agg (rulesR p s)) := by
  refine callV_pure0 rfl (by simp [h.closedV]) (by simp [V.closedT,V.closedV,rulesR,marksR,V.closed,V.flat]) ?_
  have hk:=h.eq
  subst hk
  rw [ferry_valid_asked_rules_eq,rules_cut]
  obtain ⟨-,⟨_,hp⟩,_,hs⟩:=id h
  have gd:(decide ((0:Nat) ≠ 2)) = true:=by decide
  have r3:Rule p s 3 ↔ (s.t.ps.length = p.procs.length ∧ s.ports.length = p.ports.length ∧ s.pages.length = p.pages.length ∧ (s.up.length:Int) = p.ev ∧ s.sems.length = p.sems.length):=Iff.rfl
  have r2:Rule p s 2 ↔ ((0 ≤ s.fr ∧ s.fr ≤ 2147483647) ∧ (0 ≤ s.ep ∧ s.ep ≤ 2147483647)):=Iff.rfl
  have r1:(s.id == p.id) = decide (Rule p s 1):=rfl
  have hpl:=hs.plen
  simp only [rulesHead]
  (repeat' (first | (simp (maxSteps:=5000000) only [wp,extractV,w0,reduceIte,Nat.reduceAdd,Nat.reduceLT,Nat.reduceLeDiff,Nat.reduceEqDiff,apartV,gd,between_spec,hs.t.p.len,hs.ports.len,hs.pages.len,hs.up.len,hs.sems.len,hp.procs.len,hp.ports.len,hp.pages.len,hp.sems.len,List.length_map]) | (with_reducible ((first | apply xC | apply xG | apply xQ) <;> intro hb <;> try simp only [hb]))))
  all_goals refine (tail_run n h _ _ _ rfl rfl ?_ rfl (Nat.le_refl 4)).mono fun r _ e => e.trans (marks_eq r1 ?_ ?_)
  all_goals simp only [beq_iff_eq,beq_eq_false_iff_ne,decide_eq_true_eq,decide_eq_false_iff_not,ne_eq] at *
  all_goals first
    | (intro t ht
       simp only [capC,List.mem_cons,List.not_mem_nil,or_false] at ht
       rcases ht with rfl | rfl
       · exact ⟨(by decide:(3:Nat) < 4),rfl⟩
       · exact ⟨(by decide:(2:Nat) < 4),rfl⟩)
    | exact decF (by rw [r3]; omega)
    | exact decF (by rw [r2]; omega)
    | exact decI (by rw [r3,beq_iff_eq]; omega)
    | exact decI (by rw [r2,decide_eq_true_eq]; omega)
def broken (p:Pn) (s:St) (k:Nat):List Int:=((List.range k).filter fun i => ¬ Rule p s (i + 1)).map fun i => ((i + 1:Nat):Int)
def faultsL (p:Pn) (s:St):List Int:=if PnOk p then broken p s 17 else [0]
theorem rulesR_get {i:Nat} (hi:i < 17):(rulesR p s)[i]? = some (.bool (decide (Rule p s (i + 1)))):=by
 have:i = 0 ∨ i = 1 ∨ i = 2 ∨ i = 3 ∨ i = 4 ∨ i = 5 ∨ i = 6 ∨ i = 7 ∨ i = 8 ∨ i = 9 ∨ i = 10 ∨ i = 11 ∨ i = 12 ∨ i = 13 ∨ i = 14 ∨ i = 15 ∨ i = 16:=by omega
 rcases this with rfl | rfl | rfl | rfl | rfl | rfl | rfl | rfl | rfl | rfl | rfl | rfl | rfl | rfl | rfl | rfl | rfl <;> rfl
theorem idx17 {i:Nat} (hi:i < 17):indexA 17 1 false (.agg (rulesR p s)) (.int .i64 (i:Nat)) = some (.bool (decide (Rule p s (i + 1)))):=by
 have h:0 ≤ (i:Int) ∧ (i:Int) < ((17:Nat):Int):=by omega
 simp only [indexA,Int.toNat_natCast,Nat.mul_one,rulesR_get hi,if_pos h]
 rfl
theorem broken_snoc (k:Nat):broken p s (k + 1) = if Rule p s (k + 1) then broken p s k else broken p s k ++ [((k + 1:Nat):Int)]:=by
 unfold broken
 rw [List.range_succ,List.filter_append,List.map_append]
 by_cases h:Rule p s (k + 1) <;> simp [h]
theorem broken_le (k:Nat):(broken p s k).length ≤ k:=by
 unfold broken
 rw [List.length_map]
 exact Nat.le_trans (List.length_filter_le _ _) (by simp)
theorem flat_ints (l:List Int):flatRows (l.map intRow) = true:=by simp [flatRows,intRow,V.flat]
set_option maxRecDepth 20000 in
theorem faults_spec (hA : BErrs G) (n : Nat) (hp : PnS l p a b c d) (hs : StS m s x y z u v w g pr) : ∃ r, callV (cfg G) (sem (cfg G) (n + 8)) 63 [.agg l, .agg m] = M.ret r ∧ Sls r 1 ((faultsL p s).map intRow) := by
  refine callV_pureE rfl (by simp [hp.closedV,hs.closedV]) ?_
  obtain ⟨e,he,hE⟩:=planCheck_spec hA (n + 1) hp
  have hz:=hE.nilQ
  have hr:=rules_spec (G:=G) n ⟨rfl,⟨_,hp⟩,_,hs⟩
  obtain ⟨rfl,-⟩:=hp
  obtain ⟨rfl,-⟩:=hs
  rw [ferry_valid_Faults_eq]
  by_cases hok:PnOk p
  · rw [decide_eq_true hok] at hz
    have eF:faultsL p s = broken p s 17:=if_pos hok
    simp only [ferry_valid_Faults]
    (repeat' (first | (simp only [wp,extractV,w0,reduceIte,Nat.reduceAdd,Nat.reduceLT,Nat.reduceLeDiff,Nat.reduceEqDiff,he,hz,hr,buildV,fill,putRow]) | (with_reducible ((first | apply xC | apply xG | apply xQ) <;> intro hb <;> try simp only [hb]))))
    refine Run.loop (N:=17) (fun i r H => H.floor ≤ H.next ∧ ∃ o,r = [o,.int .i64 (i:Nat)] ∧ Own H o 1 ((broken p s i).map intRow)) ⟨Nat.zero_le _,.nils,rfl,Own.nils _ _⟩ ?_
    rintro i r H hi ⟨hf,o,rfl,ho⟩
    by_cases hlt:i < 17
    · have ad := addN hlt (show 17 ≤ big by decide)
      have l1:decide ((i:Int) < 17) = true:=by rw [decide_eq_true_eq]; omega
      have hsn:=broken_snoc (p:=p) (s:=s) i
      have hle:=broken_le (p:=p) (s:=s) i
      simp only [ferry_valid_Faults_l1]
      by_cases hR:Rule p s (i + 1)
      · rw [if_pos hR] at hsn
        have hix:=idx17 (p:=p) (s:=s) hlt
        rw [decide_eq_true hR] at hix
        (repeat' (first | (simp only [wp,extractV,w0,reduceIte,Nat.reduceAdd,Nat.reduceLT,Nat.reduceLeDiff,Nat.reduceEqDiff,l1,hix,ad]) | (with_reducible ((first | apply xC | apply xG | apply xQ) <;> intro hb <;> try simp only [hb]))))
        exact ⟨hlt,hf,o,rfl,hsn ▸ ho⟩
      · rw [if_neg hR] at hsn
        have hix:=idx17 (p:=p) (s:=s) hlt
        rw [decide_eq_false hR] at hix
        (repeat' (first | (simp only [wp,extractV,w0,reduceIte,Nat.reduceAdd,Nat.reduceLT,Nat.reduceLeDiff,Nat.reduceEqDiff,l1,hix,ad,Run.slice,fillRows,List.replicate_succ,List.replicate_zero,List.set_cons_zero]) | (with_reducible ((first | apply xC | apply xG | apply xQ) <;> intro hb <;> try simp only [hb]))))
        have f1:Frame H (H.add ⟨1,[[.int .i64 ((i + 1:Nat):Int)]]⟩) (fun _ => False):=Frame.add _ _
        refine (Run.app (items:=[[.int .i64 ((i + 1:Nat):Int)]]) (by show H.floor ≤ H.next + 1; omega) (ho.frame f1 fun _ _ => id) (by simp [itemsV,Heap.add_blk]) (by rw [List.length_map]; unfold room; simp; omega)).mono fun y H' ⟨o',f,ll⟩ => ?_
        (repeat' (first | (simp only [wp,extractV,w0,reduceIte,Nat.reduceAdd,Nat.reduceLT,Nat.reduceLeDiff,Nat.reduceEqDiff,ad]) | (with_reducible ((first | apply xC | apply xG | apply xQ) <;> intro hb <;> try simp only [hb]))))
        refine ⟨hlt,?_,y,rfl,?_⟩
        · have h1:=f.floor
          have h2:=f.next
          have h3:(H.add ⟨1,[[.int .i64 ((i + 1:Nat):Int)]]⟩).next = H.next + 1:=rfl
          have h4:(H.add ⟨1,[[.int .i64 ((i + 1:Nat):Int)]]⟩).floor = H.floor:=rfl
          omega
        · rw [hsn,List.map_append]
          exact o'
    · have l1:decide ((i:Int) < 17) = false:=by rw [decide_eq_false_iff_not]; omega
      simp only [ferry_valid_Faults_l1]
      (repeat' (first | (simp only [wp,extractV,w0,reduceIte,Nat.reduceAdd,Nat.reduceLT,Nat.reduceLeDiff,Nat.reduceEqDiff,l1]) | (with_reducible ((first | apply xC | apply xG | apply xQ) <;> intro hb <;> try simp only [hb]))))
      rw [show i = 17 by omega] at ho
      obtain ⟨q,h1,_,h2⟩:=ho.thawV (flat_ints _) true
      exact ⟨q,h1,eF ▸ h2⟩
  · rw [decide_eq_false hok] at hz
    have eF:faultsL p s = [0]:=if_neg hok
    simp only [ferry_valid_Faults]
    (repeat' (first | (simp only [wp,extractV,w0,reduceIte,Nat.reduceAdd,Nat.reduceLT,Nat.reduceLeDiff,Nat.reduceEqDiff,he,hz,Run.slice,fillRows,List.replicate_succ,List.replicate_zero,List.set_cons_zero]) | (with_reducible ((first | apply xC | apply xG | apply xQ) <;> intro hb <;> try simp only [hb]))))
    rw [eF]
    exact ⟨.imm 1 [[i64 0]],rfl,Sls.imm _ _⟩
def bad? (p:Pn) (s:St) (last:Int):Option Int:=match faultsL p s with
 | [] => none
 | f :: _ => if last < f then none else some f
def badE (o:Option Int):V:=match o with
 | none => .nili
 | some f => if f = 0 then errV 1 else atV f 2
set_option maxRecDepth 20000 in
theorem upTo_spec (hA : BErrs G) (n : Nat) (hp : PnS l p a b c d) (hs : StS m s x y z u v w g pr) (last : Int) : callV (cfg G) (sem (cfg G) (n + 9)) 31 [.agg l, .agg m, i64 last] = M.ret (badE (bad? p s last)) := by
  refine callV_pure rfl (by simp [hp.closedV,hs.closedV,cI]) ?_
  obtain ⟨r,hr,hS⟩:=faults_spec hA n hp hs
  obtain ⟨rfl,-⟩:=hp
  obtain ⟨rfl,-⟩:=hs
  rw [ferry_valid_upTo_eq]
  unfold bad?
  rcases hF:faultsL p s with _ | ⟨f,fs⟩
  · rw [hF] at hS
    have hl:=hS.len
    simp only [List.map_nil,List.length_nil] at hl
    have z0:((((0:Nat):Int)) == 0) = true:=rfl
    simp only [ferry_valid_upTo]
    (repeat' (first | (simp only [wp,extractV,w0,reduceIte,Nat.reduceAdd,Nat.reduceLT,Nat.reduceLeDiff,Nat.reduceEqDiff,hr,hl,z0]) | (with_reducible ((first | apply xC | apply xG | apply xQ) <;> intro hb <;> try simp only [hb]))))
    rfl
  · rw [hF] at hS
    have hl:=hS.len
    have hi:=hS.idx (k:=.i64) (i:=0) (by simp)
    simp only [List.getElem_map,List.getElem_cons_zero] at hi
    replace hi:idxV 1 r (.int .i64 0) = some (.iptr (intRow f) 0):=hi
    have z0 : (((((f :: fs).map intRow).length : Nat) : Int) == 0) = false := by
      rw [beq_eq_false_iff_ne,List.length_map,List.length_cons]
      omega
    simp only [ferry_valid_upTo]
    by_cases h1:last < f
    · (repeat' (first | (simp only [wp,extractV,w0,reduceIte,Nat.reduceAdd,Nat.reduceLT,Nat.reduceLeDiff,Nat.reduceEqDiff,hr,hl,z0,hi,intRow,decide_eq_true h1,glob_b hA,bs_ok]) | (with_reducible ((first | apply xC | apply xG | apply xQ) <;> intro hb <;> try simp only [hb]))))
      rw [if_pos h1]
      rfl
    · by_cases h0 : f = 0
      · have z1:(f == 0) = true:=by simpa using h0
        (repeat' (first | (simp only [wp,extractV,w0,reduceIte,Nat.reduceAdd,Nat.reduceLT,Nat.reduceLeDiff,Nat.reduceEqDiff,hr,hl,z0,hi,intRow,decide_eq_false h1,z1,glob_b hA,bs_ok]) | (with_reducible ((first | apply xC | apply xG | apply xQ) <;> intro hb <;> try simp only [hb]))))
        rw [if_neg h1]
        simp only [badE,if_pos h0]
        rfl
      · have z1:(f == 0) = false:=by simpa using h0
        have hc:(errV 2).cells? = some [errV 2]:=rfl
        (repeat' (first | (simp only [wp,extractV,w0,reduceIte,Nat.reduceAdd,Nat.reduceLT,Nat.reduceLeDiff,Nat.reduceEqDiff,hr,hl,z0,hi,intRow,decide_eq_false h1,z1,glob_b hA,bs_ok,buildV,fill,putRow,hc,iface_ptr]) | (with_reducible ((first | apply xC | apply xG | apply xQ) <;> intro hb <;> try simp only [hb]))))
        rw [if_neg h1]
        simp only [badE,if_neg h0]
        rfl
theorem check_val (hA:BErrs G) (n:Nat) (hp:PnS l p a b c d) (hs:StS m s x y z u v w g pr):callV (cfg G) (sem (cfg G) (n + 10)) 17 [.agg l,.agg m] = M.ret (badE (bad? p s 16)):=by
 have hu:=upTo_spec hA n hp hs 16
 have hc:(badE (bad? p s 16)).closedT = true:=by
  unfold badE
  split
  ·rfl
  ·split <;> rfl
 refine callV_pure0 rfl (by simp [hp.closedV,hs.closedV]) hc ?_
 obtain ⟨rfl,-⟩:=hp
 obtain ⟨rfl,-⟩:=hs
 rw [ferry_valid_Check_eq]
 simp only [ferry_valid_Check]
 (repeat' (first | (simp only [wp,extractV,w0,reduceIte,Nat.reduceAdd,Nat.reduceLT,Nat.reduceLeDiff,Nat.reduceEqDiff,hu]) | (with_reducible ((first | apply xC | apply xG | apply xQ) <;> intro hb <;> try simp only [hb]))))
def StOk (p:Pn) (s:St):Prop:=PnOk p ∧ ∀ k,k < 16 → Rule p s (k + 1)
theorem bad_none (h : StOk p s) : bad? p s 16 = none := by
  unfold bad? faultsL
  rw [if_pos h.1]
  have hb : ∀ f ∈ broken p s 17, (16 : Int) < f := fun f hf => by
    unfold broken at hf
    obtain ⟨i,hi,rfl⟩:=List.mem_map.1 hf
    rw [List.mem_filter,List.mem_range] at hi
    have:=hi.2
    simp only [decide_eq_true_eq] at this
    have:¬ i < 16:=fun g => this (h.2 i g)
    omega
  cases hF:broken p s 17 with
  | nil => rfl
  | cons f fs =>
    rw [hF] at hb
    exact if_pos (hb f (List.mem_cons_self ..))
theorem ok_none (h : bad? p s 16 = none) : StOk p s := by
  unfold bad? faultsL at h
  by_cases hp:PnOk p
  · rw [if_pos hp] at h
    refine ⟨hp,fun k hk => Classical.byContradiction fun hn => ?_⟩
    have hsub : ∀ j, k + 1 ≤ j → ((k + 1 : Nat) : Int) ∈ broken p s j ∧ ∃ f fs, broken p s j = f :: fs ∧ f ≤ ((k + 1 : Nat) : Int) := by
      intro j hj
      induction j with
      | zero => omega
      | succ j ih =>
        rw [broken_snoc]
        by_cases hjk:k + 1 ≤ j
        · obtain ⟨h1,f,fs,h2,h3⟩:=ih hjk
          split
          · exact ⟨h1,f,fs,h2,h3⟩
          · exact ⟨List.mem_append_left _ h1,f,fs ++ [((j + 1:Nat):Int)],by rw [h2]; rfl,h3⟩
        · have e : j = k := by omega
          subst e
          rw [if_neg hn]
          refine ⟨List.mem_append_right _ (List.mem_singleton.2 rfl),?_⟩
          cases hB:broken p s j with
          | nil => exact ⟨_,[],rfl,Int.le_refl _⟩
          | cons f fs =>
            refine ⟨f,fs ++ [((j + 1:Nat):Int)],rfl,?_⟩
            have:f ∈ broken p s j:=hB ▸ List.mem_cons_self ..
            unfold broken at this
            obtain ⟨i,hi,rfl⟩:=List.mem_map.1 this
            rw [List.mem_filter,List.mem_range] at hi
            have:=hi.1
            omega
    obtain ⟨_,f,fs,e,hf⟩:=hsub 17 (by omega)
    rw [e] at h
    simp only [] at h
    split at h
    · omega
    · cases h
  · rw [if_neg hp] at h
    simp at h
instance:Decidable (StOk p s):=decidable_of_iff (bad? p s 16 = none) ⟨ok_none,bad_none⟩
end Sy
end Go.Fv.Tr
