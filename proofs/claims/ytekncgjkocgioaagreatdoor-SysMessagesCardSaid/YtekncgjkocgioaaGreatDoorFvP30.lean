/-
  valid: the rules asked of each process and each port. By an AI agent; no person has read it.
-/
import Derived.Test.YtekncgjkocgioaaGreatDoorFvP28
import Derived.Test.YtekncgjkocgioaaGreatDoorFvP29
set_option linter.unusedVariables false
set_option linter.unusedSimpArgs false
set_option linter.unusedSectionVars false
/-! valid: the rules asked of each process and each port. -/
namespace Go.Fv
open Go
def Sees (c:List (Nat × Blk)) (K:Heap):Prop:=∀ x ∈ c,x.1 < K.next ∧ K.blk x.1 = some x.2
theorem Sees.nil (K:Heap):Sees [] K:=fun _ h => by cases h
theorem Sees.frame {c:List (Nat × Blk)} {K K':Heap} (h:Sees c K) (f:Frame K K' (fun _ => False)):Sees c K':=fun x hx => ⟨Nat.lt_of_lt_of_le (h x hx).1 f.next,by rw [f.old _ (h x hx).1 id]; exact (h x hx).2⟩
def AnsR (c:List (Nat × Blk)) (m:M V) (P:V → Prop):Prop:=∀ K,Sees c K → K.floor ≤ K.next → Run m K fun v K' => P v ∧ Frame K K' (fun _ => False)
def AnsC (c:List (Nat × Blk)) (m:M V) (r:V):Prop:=AnsR c m fun v => v = r
theorem AnsC.ret {c:List (Nat × Blk)} {m:M V} {r:V} (h:m = M.ret r):AnsC c m r:=fun K _ _ => by rw [h]; exact Run.ret.2 ⟨rfl,Frame.refl _ _⟩
theorem AnsR.run {c:List (Nat × Blk)} {m:M V} {P:V → Prop} {H:Heap} {Q:V → Heap → Prop} (h:AnsR c m P) (hc:Sees c H) (hf:H.floor ≤ H.next) (q:∀ v H',P v → Frame H H' (fun _ => False) → Q v H'):Run m H Q :=
 (h H hc hf).mono fun v H' g => q v H' g.1 g.2
theorem AnsR.q {c:List (Nat × Blk)} {m:M V} {P:V → Prop} {H:Heap} {v:Nat → Bool} {Q:V → Heap → Prop} (h:AnsR c m P) (hc:Sees c H) (hv:∀ x ∈ c,v x.1 = true) (q:∀ y H',P y → Frame H H' (fun _ => False) → Q y H'):Run (qrun v m) H Q:=by
 refine Run.qrunI ((h ⟨fun l => if v l then H.blk l else none,H.next,H.next⟩ (fun x hx => ⟨(hc x hx).1,by show (if v x.1 = true then H.blk x.1 else none) = _; rw [if_pos (hv x hx)]; exact (hc x hx).2⟩) (Nat.le_refl _)).mono fun y K' g => ?_)
 exact q y _ g.1 ⟨g.2.next,rfl,fun l hl _ => if_pos hl⟩
end Go.Fv
namespace Go.Fv.Tr
open Go Go.Fv Go.Fv.Pl Go.Proofs
variable {G:GV}
namespace Sy
variable {l m:List V} {s:St} {p:Pn} {x y z a b c d x' y' z' u v w g:V} {pr:List (List V)} {k:List V} {C:List (Nat × Blk)}
set_option maxRecDepth 20000 in
theorem procs_ans (n:Nat) (h:AsS k p s a b c d x y z u v w g pr) {isv:V} {R:Pr → Prop} [DecidablePred R]
  (hR:∀ q ∈ s.t.ps,AnsC C (callFn (cfg G) (sem (cfg G) n) isv [.agg (prRow q)]) (.bool (decide (R q)))) :
  AnsC C (callV (cfg G) (sem (cfg G) (n + 1)) 159 [.agg k,isv]) (.bool (decide (∀ q ∈ s.t.ps,R q))):=by
 intro K hC hK
 rw [callV_inl rfl,ferry_valid_asked_procs_eq]
 obtain ⟨rfl,⟨_,hp⟩,_,hs⟩:=h
 have ht:=hs.t
 simp only [ferry_valid_asked_procs]
 (repeat' (first | (simp only [wp,extractV,w0,reduceIte,Nat.reduceAdd,Nat.reduceLT,Nat.reduceLeDiff,Nat.reduceEqDiff,ht.p.len,List.length_map]) | (with_reducible ((first | apply xC | apply xG | apply xQ) <;> intro hb <;> try simp only [hb]))))
 refine Run.loop (N:=s.t.ps.length) (fun i r H => r = [.bool false,.int .i64 (i:Nat)] ∧ Frame K H (fun _ => False) ∧ ∀ q ∈ s.t.ps.take i,R q) ⟨rfl,Frame.add _ _,by simp⟩ ?_
 rintro i r H hi ⟨rfl,hF,hall⟩
 by_cases hlt:i < s.t.ps.length
 ·have i2:=ht.p.idx (k:=.i64) (i:=i) (by simpa using hlt)
  simp only [List.getElem_map] at i2
  have hw:=ht.wp _ (List.getElem_mem hlt)
  have ad:=addN hlt ht.big.1
  have hy:=all_snoc (P:=R) hlt
  have hA:=hR _ (List.getElem_mem hlt)
  have no:¬ R s.t.ps[i] → V.bool false = V.bool (decide (∀ q ∈ s.t.ps,R q)):=fun g => boolF fun h => g (h _ (List.getElem_mem hlt))
  generalize s.t.ps[i] = P at *
  have hfl:H.floor ≤ H.next:=by rw [hF.floor]; exact Nat.le_trans hK hF.next
  simp only [ferry_valid_asked_procs_l1]
  (repeat' (first | (simp only [wp,extractV,w0,reduceIte,Nat.reduceAdd,Nat.reduceLT,Nat.reduceLeDiff,Nat.reduceEqDiff,ltT hlt,i2,pr_len hw,pr_take hw,hfl]) | (with_reducible ((first | apply xC | apply xG | apply xQ) <;> intro hb <;> try simp only [hb]))))
  have f1:Frame H ((H.add ⟨21,[[.int .u32 0,.int .u32 0,.int .u32 0,.int .u32 0,.int .u32 0,.int .u32 0,.int .u32 0,.int .u32 0,.int .u32 0,.int .u32 0,.int .u32 0,.int .u32 0,.int .u32 0,.int .u32 0,.int .u32 0,.int .u32 0,.int .u32 0,.int .i64 0,.int .i64 0,.int .i64 0,.int .i64 0]]⟩).set H.next ⟨21,[prRow P]⟩) (fun _ => False):=(Frame.add _ _).st (Nat.le_refl _) _
  refine hA.run ((hC.frame hF).frame f1) (by show H.floor ≤ H.next + 1; omega) fun y H' e f2 => ?_
  subst e
  (repeat' (first | (simp only [wp,extractV,w0,reduceIte,Nat.reduceAdd,Nat.reduceLT,Nat.reduceLeDiff,Nat.reduceEqDiff,ad]) | (with_reducible ((first | apply xC | apply xG | apply xQ) <;> intro hb <;> try simp only [hb]))))
  all_goals simp only [decide_eq_true_eq,decide_eq_false_iff_not] at hb
  all_goals first
   | exact ⟨no hb,(hF.tr f1).tr f2⟩
   | exact ⟨hlt,(hF.tr f1).tr f2,hy.2 ⟨hall,hb⟩⟩
 ·simp only [ferry_valid_asked_procs_l1]
  (repeat' (first | (simp only [wp,extractV,w0,reduceIte,Nat.reduceAdd,Nat.reduceLT,Nat.reduceLeDiff,Nat.reduceEqDiff,ltF hlt]) | (with_reducible ((first | apply xC | apply xG | apply xQ) <;> intro hb <;> try simp only [hb]))))
  rw [take_all (by omega)] at hall
  exact ⟨boolT hall,hF⟩
theorem prC (q:Pr):(V.agg (prRow q)).closedV = true:=by simp [V.closedV,prRow,V.closed,V.flat]
theorem callFn0 {call:FuncId → List V → M V} {f:FuncId} {us:List V}:callFn (cfg G) call (.fn f []) us = callV (cfg G) call f us:=by simp [callFn]
theorem callFnB {call:FuncId → List V → M V} {f:FuncId} {w us:List V}:callFn (cfg G) call (.bfn f w) us = callV (cfg G) call f (w ++ us):=by simp [callFn]
theorem callFn2 {call:FuncId → List V → M V} {f:FuncId} {w us:List V}:callFn (cfg G) call (.fn f w) us = callV (cfg G) call f (us ++ w):=by simp [callFn]
theorem rules1_ans (n:Nat) {q:Pr} (h:Wp q):AnsC C (callV (cfg G) (sem (cfg G) (n + 1)) 161 [.agg (prRow q)]) (.bool (decide (q.wait ≠ 0 ↔ q.state = 2))):=by
 intro K hC hK
 rw [callV_inl rfl,ferry_valid_asked_rules_1_eq]
 simp only [ferry_valid_asked_rules_1]
 (repeat' (first | (simp only [wp,extractV,w0,reduceIte,Nat.reduceAdd,Nat.reduceLT,Nat.reduceLeDiff,Nat.reduceEqDiff,pr_len h,pr_take h,pr_state h,pr_wait h]) | (with_reducible ((first | apply xC | apply xG | apply xQ) <;> intro hb <;> try simp only [hb]))))
 refine ⟨?_,Frame.add _ _⟩
 have e1:(q.wait == 0) = decide (q.wait = 0):=rfl
 have e2:(q.state == 2) = decide (q.state = 2):=rfl
 rw [e1,e2]
 by_cases h1:q.wait = 0 <;> by_cases h2:q.state = 2 <;> simp [h1,h2]
set_option maxRecDepth 20000 in
theorem object_spec (n:Nat) (h:AsS k p s a b c d x y z u v w g pr) {q:Pr} (hq:Wp q):callV (cfg G) (sem (cfg G) (n + 2)) 162 [.agg k,.agg (prRow q)] = M.ret (.bool (decide (ObjOk p q.wait q.obj))):=by
 refine callV_pure0 rfl (by simp [h.closedV,prC]) rfl ?_
 obtain ⟨rfl,⟨_,hp⟩,_,hs⟩:=h
 rw [ferry_valid_asked_object_eq]
 by_cases h4:q.wait = 4 ∧ 0 ≤ q.obj ∧ q.obj < p.ports.length
 ·obtain ⟨h4,h5⟩:=h4
  have i2:=hp.ports.idxI (k:=.i64) (i:=q.obj) h5.1 (by simpa using h5.2)
  simp only [List.getElem_map] at i2
  have e:ObjOk p q.wait q.obj ↔ queT (p.ports[q.obj.toNat]'(by omega)):=by
   unfold ObjOk
   rw [h4,List.getElem?_eq_getElem (by omega)]
   simp [h5.1]
  have e2:decide (ObjOk p q.wait q.obj) = decide (queT (p.ports[q.obj.toNat]'(by omega))):=decide_eq_decide.2 e
  rw [e2]
  generalize (p.ports[q.obj.toNat]'(by omega)) = T at *
  simp only [ferry_valid_asked_object]
  have w2:(4 == (2:Int)) = false:=rfl
  have w3:(4 == (3:Int)) = false:=rfl
  (repeat' (first | (simp only [wp,extractV,w0,reduceIte,Nat.reduceAdd,Nat.reduceLT,Nat.reduceLeDiff,Nat.reduceEqDiff,pr_len hq,pr_take hq,pr_wait hq,pr_obj hq,h4,w2,w3,hp.ports.len,List.length_map,within_spec,decide_eq_true h5,i2,tpR,beq_self_eq_true]) | (with_reducible ((first | apply xC | apply xG | apply xQ) <;> intro hb <;> try simp only [hb]))))
  all_goals ((try simp only [decide_eq_true_eq,decide_eq_false_iff_not,beq_iff_eq,beq_eq_false_iff_ne,ne_eq,bne_iff_ne,nbeq_e,Bool.true_eq_false,Bool.false_eq_true,iff_false,iff_true,Bool.not_eq_true',Bool.not_eq_false'] at *); refine boolI ?_; (try simp only [decide_eq_true_eq,decide_eq_false_iff_not,beq_iff_eq,beq_eq_false_iff_ne,ne_eq,bne_iff_ne,nbeq_e,Bool.true_eq_false,Bool.false_eq_true,iff_false,iff_true,Bool.not_eq_true',Bool.not_eq_false',true_iff,false_iff]); (try unfold queT); (try omega))
 ·simp only [ferry_valid_asked_object]
  have hO:decide (ObjOk p q.wait q.obj) = decide (if q.wait = 2 then 0 ≤ q.obj ∧ q.obj < p.ev else if q.wait = 3 then 0 ≤ q.obj ∧ q.obj < p.sems.length else if q.wait = 4 then False else q.obj = 0):=by
   rw [decide_eq_decide]
   unfold ObjOk
   by_cases h2:q.wait = 2
   ·simp [h2]
   by_cases h3:q.wait = 3
   ·simp [h2,h3]
   by_cases h5:q.wait = 4
   ·simp only [h5,if_neg (show ¬ (4:Int) = 2 by decide),if_neg (show ¬ (4:Int) = 3 by decide),if_true,iff_false]
    rintro ⟨g0,T,g1,_⟩
    have:=(List.getElem?_eq_some_iff.1 g1).1
    exact h4 ⟨h5,g0,by omega⟩
   ·simp [h2,h3,h5]
  rw [hO]
  have h5:q.wait = 4 → ¬ (0 ≤ q.obj ∧ q.obj < p.ports.length):=fun g g' => h4 ⟨g,g'⟩
  by_cases h6:q.wait = 4
  ·have w2:(4 == (2:Int)) = false:=rfl
   have w3:(4 == (3:Int)) = false:=rfl
   (repeat' (first | (simp only [wp,extractV,w0,reduceIte,Nat.reduceAdd,Nat.reduceLT,Nat.reduceLeDiff,Nat.reduceEqDiff,pr_len hq,pr_take hq,pr_wait hq,pr_obj hq,h6,w2,w3,hp.ports.len,List.length_map,within_spec,decide_eq_false (h5 h6),beq_self_eq_true]) | (with_reducible ((first | apply xC | apply xG | apply xQ) <;> intro hb <;> try simp only [hb]))))
   rfl
  ·have w4:(q.wait == 4) = false:=by simpa using h6
   (repeat' (first | (simp only [wp,extractV,w0,reduceIte,Nat.reduceAdd,Nat.reduceLT,Nat.reduceLeDiff,Nat.reduceEqDiff,pr_len hq,pr_take hq,pr_wait hq,pr_obj hq,w4,hp.sems.len,List.length_map,within_spec]) | (with_reducible ((first | apply xC | apply xG | apply xQ) <;> intro hb <;> try simp only [hb]))))
   all_goals simp only [beq_iff_eq,beq_eq_false_iff_ne,ne_eq] at *
   all_goals (try simp_all)
   all_goals rfl
end Sy
end Go.Fv.Tr
namespace Go.Fv.Tr
open Go Go.Fv Go.Fv.Pl Go.Proofs
variable {G:GV}
namespace Sy
variable {l m:List V} {s:St} {p:Pn} {x y z a b c d x' y' z' u v w g:V} {pr:List (List V)} {k:List V} {C:List (Nat × Blk)}
set_option maxRecDepth 20000 in
theorem indexS_ans (n:Nat) {ls:List ByteArray} (hx:Sls x 1 (ls.map stR)) (hl:ls.length ≤ big) {isv:V} {R:ByteArray → Prop} [DecidablePred R]
  (hR:∀ q ∈ ls,AnsC C (callFn (cfg G) (sem (cfg G) n) isv [.str q]) (.bool (decide (R q)))) :
  AnsR C (callV (cfg G) (sem (cfg G) (n + 1)) 229 [x,isv]) fun v => ∃ k,v = i64 k ∧ (0 ≤ k ↔ ∃ q ∈ ls,R q):=by
 intro K hC hK
 rw [callV_inl rfl,slices_IndexFunc_string_string_eq]
 simp only [slices_IndexFunc_string_string]
 (repeat' (first | (simp only [wp,extractV,w0,reduceIte,Nat.reduceAdd,Nat.reduceLT,Nat.reduceLeDiff,Nat.reduceEqDiff,hx.len,List.length_map]) | (with_reducible ((first | apply xC | apply xG | apply xQ) <;> intro hb <;> try simp only [hb]))))
 refine Run.loop (N:=ls.length) (fun i r H => r = [.int .i64 0,.int .i64 (i:Nat)] ∧ Frame K H (fun _ => False) ∧ ∀ q ∈ ls.take i,¬ R q) ⟨rfl,Frame.refl _ _,by simp⟩ ?_
 rintro i r H hi ⟨rfl,hF,hall⟩
 by_cases hlt:i < ls.length
 ·have i2:=hx.idx (k:=.i64) (i:=i) (by simpa using hlt)
  simp only [List.getElem_map] at i2
  have ad:=addN hlt hl
  have hy:=all_snoc (P:=fun q => ¬ R q) hlt
  have hA:=hR _ (List.getElem_mem hlt)
  have yes:R ls[i] → ∃ q ∈ ls,R q:=fun g => ⟨_,List.getElem_mem hlt,g⟩
  generalize ls[i] = P at *
  have hfl:H.floor ≤ H.next:=by rw [hF.floor]; exact Nat.le_trans hK hF.next
  simp only [slices_IndexFunc_string_string_l1]
  (repeat' (first | (simp only [wp,extractV,w0,reduceIte,Nat.reduceAdd,Nat.reduceLT,Nat.reduceLeDiff,Nat.reduceEqDiff,ltT hlt,i2,stR,hfl]) | (with_reducible ((first | apply xC | apply xG | apply xQ) <;> intro hb <;> try simp only [hb]))))
  refine hA.run (hC.frame hF) hfl fun y H' e f2 => ?_
  subst e
  (repeat' (first | (simp only [wp,extractV,w0,reduceIte,Nat.reduceAdd,Nat.reduceLT,Nat.reduceLeDiff,Nat.reduceEqDiff,ad]) | (with_reducible ((first | apply xC | apply xG | apply xQ) <;> intro hb <;> try simp only [hb]))))
  all_goals simp only [decide_eq_true_eq,decide_eq_false_iff_not] at hb
  all_goals first
   | exact ⟨⟨i,rfl,⟨fun _ => yes hb,fun _ => by omega⟩⟩,hF.tr f2⟩
   | exact ⟨hlt,hF.tr f2,hy.2 ⟨hall,hb⟩⟩
 ·simp only [slices_IndexFunc_string_string_l1]
  (repeat' (first | (simp only [wp,extractV,w0,reduceIte,Nat.reduceAdd,Nat.reduceLT,Nat.reduceLeDiff,Nat.reduceEqDiff,ltF hlt]) | (with_reducible ((first | apply xC | apply xG | apply xQ) <;> intro hb <;> try simp only [hb]))))
  rw [take_all (by omega)] at hall
  exact ⟨⟨-1,rfl,⟨fun h => absurd h (by decide),fun ⟨q,h1,h2⟩ => absurd h2 (hall q h1)⟩⟩,hF⟩
set_option maxRecDepth 20000 in
theorem indexI_ans (n:Nat) {ls:List Int} (hx:Sls x 1 (ls.map intRow)) (hl:ls.length ≤ big) {isv:V} {R:Int → Prop} [DecidablePred R]
  (hR:∀ q ∈ ls,AnsC C (callFn (cfg G) (sem (cfg G) n) isv [i64 q]) (.bool (decide (R q)))) :
  AnsR C (callV (cfg G) (sem (cfg G) (n + 1)) 228 [x,isv]) fun v => ∃ k,v = i64 k ∧ (0 ≤ k ↔ ∃ q ∈ ls,R q):=by
 intro K hC hK
 rw [callV_inl rfl,slices_IndexFunc_int_int_eq]
 simp only [slices_IndexFunc_int_int]
 (repeat' (first | (simp only [wp,extractV,w0,reduceIte,Nat.reduceAdd,Nat.reduceLT,Nat.reduceLeDiff,Nat.reduceEqDiff,hx.len,List.length_map]) | (with_reducible ((first | apply xC | apply xG | apply xQ) <;> intro hb <;> try simp only [hb]))))
 refine Run.loop (N:=ls.length) (fun i r H => r = [.int .i64 0,.int .i64 (i:Nat)] ∧ Frame K H (fun _ => False) ∧ ∀ q ∈ ls.take i,¬ R q) ⟨rfl,Frame.refl _ _,by simp⟩ ?_
 rintro i r H hi ⟨rfl,hF,hall⟩
 by_cases hlt:i < ls.length
 ·have i2:=hx.idx (k:=.i64) (i:=i) (by simpa using hlt)
  simp only [List.getElem_map] at i2
  have ad:=addN hlt hl
  have hy:=all_snoc (P:=fun q => ¬ R q) hlt
  have hA:=hR _ (List.getElem_mem hlt)
  have yes:R ls[i] → ∃ q ∈ ls,R q:=fun g => ⟨_,List.getElem_mem hlt,g⟩
  generalize ls[i] = P at *
  have hfl:H.floor ≤ H.next:=by rw [hF.floor]; exact Nat.le_trans hK hF.next
  simp only [slices_IndexFunc_int_int_l1]
  (repeat' (first | (simp only [wp,extractV,w0,reduceIte,Nat.reduceAdd,Nat.reduceLT,Nat.reduceLeDiff,Nat.reduceEqDiff,ltT hlt,i2,intRow,hfl]) | (with_reducible ((first | apply xC | apply xG | apply xQ) <;> intro hb <;> try simp only [hb]))))
  refine hA.run (hC.frame hF) hfl fun y H' e f2 => ?_
  subst e
  (repeat' (first | (simp only [wp,extractV,w0,reduceIte,Nat.reduceAdd,Nat.reduceLT,Nat.reduceLeDiff,Nat.reduceEqDiff,ad]) | (with_reducible ((first | apply xC | apply xG | apply xQ) <;> intro hb <;> try simp only [hb]))))
  all_goals simp only [decide_eq_true_eq,decide_eq_false_iff_not] at hb
  all_goals first
   | exact ⟨⟨i,rfl,⟨fun _ => yes hb,fun _ => by omega⟩⟩,hF.tr f2⟩
   | exact ⟨hlt,hF.tr f2,hy.2 ⟨hall,hb⟩⟩
 ·simp only [slices_IndexFunc_int_int_l1]
  (repeat' (first | (simp only [wp,extractV,w0,reduceIte,Nat.reduceAdd,Nat.reduceLT,Nat.reduceLeDiff,Nat.reduceEqDiff,ltF hlt]) | (with_reducible ((first | apply xC | apply xG | apply xQ) <;> intro hb <;> try simp only [hb]))))
  rw [take_all (by omega)] at hall
  exact ⟨⟨-1,rfl,⟨fun h => absurd h (by decide),fun ⟨q,h1,h2⟩ => absurd h2 (hall q h1)⟩⟩,hF⟩
instance {α:Type} (ls:List α) (R:α → Prop) [DecidablePred R]:Decidable (∃ q ∈ ls,R q):=decidable_of_iff (ls.any (fun q => decide (R q)) = true) (by simp [List.any_eq_true])
theorem containsS_ans (n:Nat) {ls:List ByteArray} (hx:Sls x 1 (ls.map stR)) (hl:ls.length ≤ big) {isv:V} {R:ByteArray → Prop} [DecidablePred R]
  (hR:∀ q ∈ ls,AnsC C (callFn (cfg G) (sem (cfg G) n) isv [.str q]) (.bool (decide (R q)))) :
  AnsC C (callV (cfg G) (sem (cfg G) (n + 2)) 170 [x,isv]) (.bool (decide (∃ q ∈ ls,R q))):=by
 intro K hC hK
 rw [callV_inl rfl,slices_ContainsFunc_string_string_eq]
 simp only [slices_ContainsFunc_string_string]
 (repeat' (first | (simp only [wp,extractV,w0,reduceIte,Nat.reduceAdd,Nat.reduceLT,Nat.reduceLeDiff,Nat.reduceEqDiff]) | (with_reducible ((first | apply xC | apply xG | apply xQ) <;> intro hb <;> try simp only [hb]))))
 refine (indexS_ans n hx hl hR).run hC hK fun y H' e f => ?_
 obtain ⟨k,rfl,hk⟩:=e
 (repeat' (first | (simp only [wp,extractV,w0,reduceIte,Nat.reduceAdd,Nat.reduceLT,Nat.reduceLeDiff,Nat.reduceEqDiff]) | (with_reducible ((first | apply xC | apply xG | apply xQ) <;> intro hb <;> try simp only [hb]))))
 exact ⟨by rw [decide_eq_decide.2 hk],f⟩
theorem containsI_ans (n:Nat) {ls:List Int} (hx:Sls x 1 (ls.map intRow)) (hl:ls.length ≤ big) {isv:V} {R:Int → Prop} [DecidablePred R]
  (hR:∀ q ∈ ls,AnsC C (callFn (cfg G) (sem (cfg G) n) isv [i64 q]) (.bool (decide (R q)))) :
  AnsC C (callV (cfg G) (sem (cfg G) (n + 2)) 166 [x,isv]) (.bool (decide (∃ q ∈ ls,R q))):=by
 intro K hC hK
 rw [callV_inl rfl,slices_ContainsFunc_int_int_eq]
 simp only [slices_ContainsFunc_int_int]
 (repeat' (first | (simp only [wp,extractV,w0,reduceIte,Nat.reduceAdd,Nat.reduceLT,Nat.reduceLeDiff,Nat.reduceEqDiff]) | (with_reducible ((first | apply xC | apply xG | apply xQ) <;> intro hb <;> try simp only [hb]))))
 refine (indexI_ans n hx hl hR).run hC hK fun y H' e f => ?_
 obtain ⟨k,rfl,hk⟩:=e
 (repeat' (first | (simp only [wp,extractV,w0,reduceIte,Nat.reduceAdd,Nat.reduceLT,Nat.reduceLeDiff,Nat.reduceEqDiff]) | (with_reducible ((first | apply xC | apply xG | apply xQ) <;> intro hb <;> try simp only [hb]))))
 exact ⟨by rw [decide_eq_decide.2 hk],f⟩
set_option maxRecDepth 20000 in
theorem ports_ans (n:Nat) (h:AsS k p s a b c d x y z u v w g pr) {isv:V} {R:Tp → Po → Prop} [∀ a b,Decidable (R a b)]
  (hR:∀ (q:Tp) (row:List V) (r:Po),PoS row r → AnsC [] (callFn (cfg G) (sem (cfg G) n) isv [.agg (tpR q),.agg row]) (.bool (decide (R q r)))) :
  AnsC C (callV (cfg G) (sem (cfg G) (n + 1)) 168 [.agg k,isv]) (.bool (decide (Both R p s))):=by
 intro K hC hK
 rw [callV_inl rfl,ferry_valid_asked_ports_eq]
 obtain ⟨rfl,⟨_,hp⟩,_,hs⟩:=h
 simp only [ferry_valid_asked_ports]
 have hN:∃ N:Nat,minV (i64 (p.ports.length:Nat)) (i64 (pr.length:Nat)) = some (i64 (N:Int)) ∧ N = (p.ports.zip s.ports).length:=by
  refine ⟨_,?_,rfl⟩
  rw [List.length_zip,← hs.plen]
  simp only [minV]
  congr 2
  split <;> omega
 obtain ⟨N,hm,hN⟩:=hN
 have hzl:N ≤ p.ports.length ∧ N ≤ pr.length:=by rw [hN,List.length_zip,hs.plen]; omega
 (repeat' (first | (simp only [wp,extractV,w0,reduceIte,Nat.reduceAdd,Nat.reduceLT,Nat.reduceLeDiff,Nat.reduceEqDiff,hp.ports.len,hs.ports.len,List.length_map,hm]) | (with_reducible ((first | apply xC | apply xG | apply xQ) <;> intro hb <;> try simp only [hb]))))
 refine Run.loop (N:=N) (fun i r H => r = [.bool false,.int .i64 (i:Nat)] ∧ Frame K H (fun _ => False) ∧ K.next < H.next ∧ (∃ B,H.blk K.next = some B ∧ B.rows = [[i64 p.id,.bool p.mob,a,b,c,i64 p.ev,d,i64 s.id,i64 s.fr,i64 s.ep,x,y,z,u,v,w,g]]) ∧ ∀ q ∈ (p.ports.zip s.ports).take i,R q.1 q.2) ⟨rfl,Frame.add _ _,Nat.lt_succ_self _,⟨_,Heap.add_new _,rfl⟩,by simp⟩ ?_
 rintro i r H hi ⟨rfl,hF,hn,⟨B,hb0,hB⟩,hall⟩
 by_cases hlt:i < N
 ·have i2:=hp.ports.idx (k:=.i64) (i:=i) (by rw [List.length_map]; omega)
  have i3:=hs.ports.idx (k:=.i64) (i:=i) (by omega)
  simp only [List.getElem_map] at i2
  have ad:=addN hlt (Nat.le_trans hzl.1 hp.big.2.2.1)
  have hz:i < (p.ports.zip s.ports).length:=by omega
  have hy:=all_snoc (P:=fun q:Tp × Po => R q.1 q.2) hz
  have no:¬ R (p.ports.zip s.ports)[i].1 (p.ports.zip s.ports)[i].2 → V.bool false = V.bool (decide (Both R p s)):=fun g => boolF fun h => g (h _ (List.getElem_mem hz))
  have ez:(p.ports.zip s.ports)[i] = (p.ports[i]'(by omega),s.ports[i]'(by rw [← hs.plen]; omega)):=List.getElem_zip
  rw [ez] at hy no
  have hA:=hR (p.ports[i]'(by omega)) _ _ (hs.prow i (by omega))
  have hrl:(pr[i]'(by omega)).length = 2:=by
   obtain ⟨m,e,_⟩:=hs.prow i (by omega)
   rw [e]; rfl
  have hrt:(pr[i]'(by omega)).take 2 = pr[i]'(by omega):=List.take_of_length_le (by omega)
  generalize (p.ports[i]'(by omega)) = T at *
  generalize (pr[i]'(by omega)) = row at *
  generalize (s.ports[i]'(by rw [← hs.plen]; omega)) = po at *
  have hfl:H.floor ≤ H.next:=by rw [hF.floor]; exact Nat.le_trans hK hF.next
  simp only [ferry_valid_asked_ports_l1]
  (repeat' (first | (simp only [wp,extractV,w0,reduceIte,Nat.reduceAdd,Nat.reduceLT,Nat.reduceLeDiff,Nat.reduceEqDiff,ltT hlt,i2,i3,hb0,hB,tp_len,tp_take,hrl,hrt]) | (with_reducible ((first | apply xC | apply xG | apply xQ) <;> intro hb <;> try simp only [hb]))))
  refine hA.q (Sees.nil _) (fun _ h => by cases h) fun y H' e f2 => ?_
  subst e
  (repeat' (first | (simp only [wp,extractV,w0,reduceIte,Nat.reduceAdd,Nat.reduceLT,Nat.reduceLeDiff,Nat.reduceEqDiff,ad]) | (with_reducible ((first | apply xC | apply xG | apply xQ) <;> intro hb <;> try simp only [hb]))))
  all_goals simp only [decide_eq_true_eq,decide_eq_false_iff_not] at hb
  all_goals first
   | exact ⟨no hb,hF.tr f2⟩
   | exact ⟨hlt,hF.tr f2,Nat.lt_of_lt_of_le hn f2.next,⟨B,by rw [f2.old _ hn id]; exact hb0,hB⟩,hy.2 ⟨hall,hb⟩⟩
 ·simp only [ferry_valid_asked_ports_l1]
  (repeat' (first | (simp only [wp,extractV,w0,reduceIte,Nat.reduceAdd,Nat.reduceLT,Nat.reduceLeDiff,Nat.reduceEqDiff,ltF hlt]) | (with_reducible ((first | apply xC | apply xG | apply xQ) <;> intro hb <;> try simp only [hb]))))
  rw [take_all (by omega)] at hall
  exact ⟨boolT hall,hF⟩
end Sy
end Go.Fv.Tr
namespace Go.Fv.Tr
open Go Go.Fv Go.Fv.Pl Go.Proofs
variable {G:GV}
namespace Sy
variable {l m:List V} {s:St} {p:Pn} {x y z a b c d x' y' z' u v w g:V} {pr:List (List V)} {k:List V} {C:List (Nat × Blk)}
theorem rules2_ans (n:Nat) (q:Int):AnsC C (callV (cfg G) (sem (cfg G) (n + 2)) 167 [i64 q]) (.bool (decide (¬ CtOk q))):=by
 intro K hC hK
 rw [callV_inl rfl,ferry_valid_asked_rules_2_eq]
 simp only [ferry_valid_asked_rules_2]
 (repeat' (first | (simp only [wp,extractV,w0,reduceIte,Nat.reduceAdd,Nat.reduceLT,Nat.reduceLeDiff,Nat.reduceEqDiff,between_spec]) | (with_reducible ((first | apply xC | apply xG | apply xQ) <;> intro hb <;> try simp only [hb]))))
 refine ⟨?_,Frame.refl _ _⟩
 rw [← decide_not]
 rfl
theorem PoS.len {row:List V} {r:Po} (h:PoS row r):row.length = 2:=by obtain ⟨m,e,_⟩:=h; rw [e]; rfl
set_option maxRecDepth 20000 in
theorem rules31_ans (n:Nat) (q:Tp) (mm:ByteArray) {i:Nat}:AnsC [(i,⟨4,[tpR q]⟩)] (callV (cfg G) (sem (cfg G) (n + 1)) 171 [.str mm,.ptr i 0 0]) (.bool (decide (q.size < (mm.size:Int)))):=by
 intro K hC hK
 have hb:=(hC _ (List.mem_singleton.2 rfl)).2
 rw [callV_inl rfl,ferry_valid_asked_rules_3_1_eq]
 simp only [ferry_valid_asked_rules_3_1]
 have t1:(tpR q)[1]? = some (i64 q.size):=rfl
 (repeat' (first | (simp only [wp,extractV,w0,reduceIte,Nat.reduceAdd,Nat.reduceLT,Nat.reduceLeDiff,Nat.reduceEqDiff,lenS_str,hb,t1]) | (with_reducible ((first | apply xC | apply xG | apply xQ) <;> intro hb <;> try simp only [hb]))))
 exact Frame.refl _ _
set_option maxRecDepth 20000 in
theorem rules3_ans (n:Nat) (q:Tp) {row:List V} {r:Po} (h:PoS row r):AnsC [] (callV (cfg G) (sem (cfg G) (n + 4)) 169 [.agg (tpR q),.agg row]) (.bool (decide (holdOk q r))):=by
 intro K hC hK
 rw [callV_inl rfl,ferry_valid_asked_rules_3_eq]
 obtain ⟨mv,rfl,hm,hl⟩:=h
 have t2:(tpR q)[2]? = some (i64 q.depth):=rfl
 have n1:¬ (K.next = K.next + 1):=by omega
 by_cases h1:(r.msgs.length:Int) ≤ q.depth
 ·simp only [ferry_valid_asked_rules_3]
  (repeat' (first | (simp only [wp,extractV,w0,reduceIte,Nat.reduceAdd,Nat.reduceLT,Nat.reduceLeDiff,Nat.reduceEqDiff,hm.len,List.length_map,decide_eq_true h1,t2,n1,tp_len]) | (with_reducible ((first | apply xC | apply xG | apply xQ) <;> intro hb <;> try simp only [hb]))))
  have f1:Frame K ((K.add ⟨4,[tpR q]⟩).add ⟨2,[[mv,i64 r.age]]⟩) (fun _ => False):=(Frame.add _ _).ad _
  refine (containsS_ans (C:=[(K.next,⟨4,[tpR q]⟩)]) (n + 1) hm hl (R:=fun m => q.size < (m.size:Int)) fun mm _ => ?_).run ?_ (by show K.floor ≤ K.next + 2; omega) fun y H' e f2 => ?_
  ·rw [callFn2]
   exact rules31_ans n q mm
  ·intro x hx
   rw [List.mem_singleton] at hx
   subst hx
   exact ⟨by show K.next < K.next + 2; omega,by rw [Heap.add_blk,if_neg (by show ¬ K.next = K.next + 1; omega),Heap.add_blk,if_pos rfl]⟩
  ·subst e
   (repeat' (first | (simp only [wp,extractV,w0,reduceIte,Nat.reduceAdd,Nat.reduceLT,Nat.reduceLeDiff,Nat.reduceEqDiff]) | (with_reducible ((first | apply xC | apply xG | apply xQ) <;> intro hb <;> try simp only [hb]))))
   refine ⟨?_,f1.tr f2⟩
   unfold holdOk
   simp only [h1,true_and,V.bool.injEq]
   rw [← decide_not,decide_eq_decide]
   constructor
   ·intro g m hm
    exact Int.not_lt.1 fun h => g ⟨m,hm,h⟩
   ·rintro g ⟨m,hm,h⟩
    exact absurd (g m hm) (Int.not_le.2 h)
 ·simp only [ferry_valid_asked_rules_3]
  (repeat' (first | (simp only [wp,extractV,w0,reduceIte,Nat.reduceAdd,Nat.reduceLT,Nat.reduceLeDiff,Nat.reduceEqDiff,hm.len,List.length_map,decide_eq_false h1,t2,n1,tp_len]) | (with_reducible ((first | apply xC | apply xG | apply xQ) <;> intro hb <;> try simp only [hb]))))
  exact ⟨boolF fun g => h1 g.1,(Frame.add _ _).ad _⟩
set_option maxRecDepth 20000 in
theorem rules4_ans (n:Nat) (q:Tp) {row:List V} {r:Po} (h:PoS row r):AnsC [] (callV (cfg G) (sem (cfg G) (n + 2)) 172 [.agg (tpR q),.agg row]) (.bool (decide (ageOk q r))):=by
 intro K hC hK
 rw [callV_inl rfl,ferry_valid_asked_rules_4_eq]
 obtain ⟨mv,rfl,hm,hl⟩:=h
 have n1:¬ (K.next = K.next + 1):=by omega
 simp only [ferry_valid_asked_rules_4,tpR]
 (repeat' (first | (simp only [wp,extractV,w0,reduceIte,Nat.reduceAdd,Nat.reduceLT,Nat.reduceLeDiff,Nat.reduceEqDiff,hm.len,List.length_map,n1,between_spec]) | (with_reducible ((first | apply xC | apply xG | apply xQ) <;> intro hb <;> try simp only [hb]))))
 all_goals refine ⟨?_,(Frame.add _ _).ad _⟩
 all_goals ((try simp only [decide_eq_true_eq,decide_eq_false_iff_not,beq_iff_eq,beq_eq_false_iff_ne,ne_eq,bne_iff_ne,nbeq_e,Bool.true_eq_false,Bool.false_eq_true,iff_false,iff_true,Bool.not_eq_true',Bool.not_eq_false'] at *); refine boolI ?_; (try simp only [decide_eq_true_eq,decide_eq_false_iff_not,beq_iff_eq,beq_eq_false_iff_ne,ne_eq,bne_iff_ne,nbeq_e,Bool.true_eq_false,Bool.false_eq_true,iff_false,iff_true,Bool.not_eq_true',Bool.not_eq_false',true_iff,false_iff]); (try unfold ageOk); (try omega))
theorem visOut_spec (n:Nat) (q:Tp):callV (cfg G) (sem (cfg G) (n + 1)) 179 [.agg (tpR q)] = M.ret (.bool (decide (outT q))):=by
 refine callV_pure0 rfl rfl rfl ?_
 rw [ferry_valid_isOut_eq]
 simp only [ferry_valid_isOut,tpR]
 (repeat' (first | (simp only [wp,extractV,w0,reduceIte,Nat.reduceAdd,Nat.reduceLT,Nat.reduceLeDiff,Nat.reduceEqDiff]) | (with_reducible ((first | apply xC | apply xG | apply xQ) <;> intro hb <;> try simp only [hb]))))
 all_goals ((try simp only [decide_eq_true_eq,decide_eq_false_iff_not,beq_iff_eq,beq_eq_false_iff_ne,ne_eq,bne_iff_ne,nbeq_e,Bool.true_eq_false,Bool.false_eq_true,iff_false,iff_true,Bool.not_eq_true',Bool.not_eq_false'] at *); refine boolI ?_; (try simp only [decide_eq_true_eq,decide_eq_false_iff_not,beq_iff_eq,beq_eq_false_iff_ne,ne_eq,bne_iff_ne,nbeq_e,Bool.true_eq_false,Bool.false_eq_true,iff_false,iff_true,Bool.not_eq_true',Bool.not_eq_false',true_iff,false_iff]); (try unfold outT); (try omega))
set_option maxRecDepth 20000 in
theorem rules7_ans (n:Nat) (q:Tp) {row:List V} {r:Po} (h:PoS row r):AnsC [] (callV (cfg G) (sem (cfg G) (n + 2)) 178 [.agg (tpR q),.agg row]) (.bool (decide (emptyOk q r))):=by
 intro K hC hK
 rw [callV_inl rfl,ferry_valid_asked_rules_7_eq]
 obtain ⟨mv,rfl,hm,hl⟩:=h
 have n1:¬ (K.next = K.next + 1):=by omega
 simp only [ferry_valid_asked_rules_7]
 (repeat' (first | (simp only [wp,extractV,w0,reduceIte,Nat.reduceAdd,Nat.reduceLT,Nat.reduceLeDiff,Nat.reduceEqDiff,hm.len,List.length_map,n1,visOut_spec,tp_len,tp_take]) | (with_reducible ((first | apply xC | apply xG | apply xQ) <;> intro hb <;> try simp only [hb]))))
 all_goals refine ⟨?_,(Frame.add _ _).ad _⟩
 all_goals simp only [decide_eq_true_eq,decide_eq_false_iff_not] at hb
 all_goals have e:((r.msgs.length:Int) == 0) = decide (r.msgs.length = 0):=by rw [show ((r.msgs.length:Int) == 0) = decide ((r.msgs.length:Int) = 0) from rfl,decide_eq_decide]; omega
 all_goals simp only [e,emptyOk,hb,forall_const,false_imp_iff,false_implies,decide_true,true_implies]
theorem min_nat (a b:Nat):∃ N:Nat,minV (i64 (a:Nat)) (i64 (b:Nat)) = some (i64 (N:Int)) ∧ N = min a b:=by
 refine ⟨_,?_,rfl⟩
 simp only [minV]
 congr 2
 split <;> omega
set_option maxRecDepth 20000 in
theorem rights_spec (n:Nat) (h:AsS k p s a b c d x y z u v w g pr):callV (cfg G) (sem (cfg G) (n + 1)) 173 [.agg k] = M.ret (.bool (decide (∀ x ∈ p.pages.zip s.pages,x.1.r = x.2.r))):=by
 refine callV_pure0 rfl (by simp [h.closedV]) rfl ?_
 obtain ⟨rfl,⟨_,hp⟩,_,hs⟩:=h
 rw [ferry_valid_asked_rights_eq]
 simp only [ferry_valid_asked_rights]
 obtain ⟨N,hm,hN⟩:=min_nat p.pages.length s.pages.length
 have hN':N = (p.pages.zip s.pages).length:=by rw [List.length_zip]; exact hN
 (repeat' (first | (simp only [wp,extractV,w0,reduceIte,Nat.reduceAdd,Nat.reduceLT,Nat.reduceLeDiff,Nat.reduceEqDiff,hp.pages.len,hs.pages.len,List.length_map,hm]) | (with_reducible ((first | apply xC | apply xG | apply xQ) <;> intro hb <;> try simp only [hb]))))
 refine Run.loop (N:=N) (fun i r H => r = [.bool false,.int .i64 (i:Nat)] ∧ H.blk 0 = some ⟨17,[[i64 p.id,.bool p.mob,a,b,c,i64 p.ev,d,i64 s.id,i64 s.fr,i64 s.ep,x,y,z,u,v,w,g]]⟩ ∧ ∀ q ∈ (p.pages.zip s.pages).take i,q.1.r = q.2.r) ⟨rfl,rfl,by simp⟩ ?_
 rintro i r H hi ⟨rfl,hb0,hall⟩
 by_cases hlt:i < N
 ·have i2:=hp.pages.idx (k:=.i64) (i:=i) (by rw [List.length_map]; omega)
  have i3:=hs.pages.idx (k:=.i64) (i:=i) (by rw [List.length_map]; omega)
  simp only [List.getElem_map] at i2 i3
  have ad:=addN hlt (show N ≤ big by have:=hp.big.1; omega)
  have hz:i < (p.pages.zip s.pages).length:=by omega
  have hy:=all_snoc (P:=fun q:Gp × Pa => q.1.r = q.2.r) hz
  have no:¬ (p.pages.zip s.pages)[i].1.r = (p.pages.zip s.pages)[i].2.r → V.bool false = V.bool (decide (∀ x ∈ p.pages.zip s.pages,x.1.r = x.2.r)):=fun g => boolF fun h => g (h _ (List.getElem_mem hz))
  have ez:(p.pages.zip s.pages)[i] = (p.pages[i]'(by omega),s.pages[i]'(by omega)):=List.getElem_zip
  rw [ez] at hy no
  generalize (p.pages[i]'(by omega)) = T at *
  generalize (s.pages[i]'(by omega)) = po at *
  simp only [ferry_valid_asked_rights_l1]
  (repeat' (first | (simp only [wp,extractV,w0,reduceIte,Nat.reduceAdd,Nat.reduceLT,Nat.reduceLeDiff,Nat.reduceEqDiff,ltT hlt,i2,i3,hb0,gpR,paR,ad]) | (with_reducible ((first | apply xC | apply xG | apply xQ) <;> intro hb <;> try simp only [hb]))))
  all_goals simp only [beq_iff_eq,beq_eq_false_iff_ne,ne_eq] at hb
  all_goals first
   | exact no hb
   | exact ⟨hlt,hy.2 ⟨hall,hb⟩⟩
 ·simp only [ferry_valid_asked_rights_l1]
  (repeat' (first | (simp only [wp,extractV,w0,reduceIte,Nat.reduceAdd,Nat.reduceLT,Nat.reduceLeDiff,Nat.reduceEqDiff,ltF hlt]) | (with_reducible ((first | apply xC | apply xG | apply xQ) <;> intro hb <;> try simp only [hb]))))
  rw [take_all (by omega)] at hall
  exact boolT hall
theorem nth_in {α:Type} {l:List α} {n:Int} (h0:0 ≤ n) (h:n < l.length):nth? l n = some (l[n.toNat]'(by omega)):=by
 unfold nth?
 rw [if_pos h0,List.getElem?_eq_getElem]
theorem nth_out {α:Type} {l:List α} {n:Int} (h:¬ (0 ≤ n ∧ n < l.length)):nth? l n = none:=by
 unfold nth?
 split
 ·exact List.getElem?_eq_none (by omega)
 ·rfl
abbrev capC (i j:Nat) (p:Pn) (s:St) (a b c d x y z u v w g:V):List (Nat × Blk) :=
 [(i,⟨10,[[i64 s.id,i64 s.fr,i64 s.ep,x,y,z,u,v,w,g]]⟩),(j,⟨7,[[i64 p.id,.bool p.mob,a,b,c,i64 p.ev,d]]⟩)]
theorem min_i (a:Nat) (b:Int):minV (i64 (a:Nat)) (i64 b) = some (i64 (if b < a then b else a)):=rfl
set_option maxRecDepth 20000 in
theorem rules5_ans (n:Nat) (h:AsS k p s a b c d x y z u v w g pr) {i j:Nat} {q:Pr} (hq:Wp q):AnsC (capC i j p s a b c d x y z u v w g) (callV (cfg G) (sem (cfg G) (n + 2)) 174 [.agg (prRow q),.ptr i 0 0,.ptr j 0 0]) (.bool (decide (upOk p s q.wait q.obj))):=by
 intro K hC hK
 have hb1:=(hC _ (List.mem_cons_self ..))
 have hb2:=(hC _ (List.mem_cons_of_mem _ (List.mem_cons_self ..)))
 obtain ⟨hi,hb1⟩:=hb1
 obtain ⟨hj,hb2⟩:=hb2
 have n1:¬ (i = K.next):=by have:i < K.next:=hi; omega
 have n2:¬ (j = K.next):=by have:j < K.next:=hj; omega
 obtain ⟨_,⟨_,hp⟩,_,hs⟩:=h
 rw [callV_inl rfl,ferry_valid_asked_rules_5_eq]
 simp only [] at hb1 hb2
 by_cases hw:q.wait = 2
 ·have w2:(q.wait == 2) = true:=by simpa using hw
  by_cases hin:0 ≤ q.obj ∧ q.obj < (if p.ev < (s.up.length:Int) then p.ev else s.up.length)
  ·have h2:q.obj < s.up.length ∧ q.obj < p.ev:=by have:=hin.2; split at this <;> omega
   have i2:=hs.up.idxI (k:=.i64) hin.1 (by simpa using h2.1)
   simp only [List.getElem_map] at i2
   have e:upOk p s q.wait q.obj ↔ (s.up[q.obj.toNat]'(by omega)) ≠ true:=by
    unfold upOk
    rw [nth_in hin.1 h2.1]
    simp [hw,h2.2]
   simp only [ferry_valid_asked_rules_5]
   (repeat' (first | (simp only [wp,extractV,w0,reduceIte,Nat.reduceAdd,Nat.reduceLT,Nat.reduceLeDiff,Nat.reduceEqDiff,pr_len hq,pr_take hq,pr_wait hq,pr_obj hq,w2,n1,n2,hb1,hb2,hs.up.len,List.length_map,min_i,within_spec,decide_eq_true hin,i2,boR]) | (with_reducible ((first | apply xC | apply xG | apply xQ) <;> intro hb <;> try simp only [hb]))))
   refine ⟨boolI ?_,Frame.add _ _⟩
   rw [e]
   simp
  ·have e:upOk p s q.wait q.obj:=fun _ g h => by
    by_cases h3:0 ≤ q.obj ∧ q.obj < s.up.length
    ·refine hin ⟨h3.1,?_⟩
     split <;> omega
    ·rw [nth_out h3] at h
     cases h
   rw [decide_eq_true e]
   simp only [ferry_valid_asked_rules_5]
   (repeat' (first | (simp only [wp,extractV,w0,reduceIte,Nat.reduceAdd,Nat.reduceLT,Nat.reduceLeDiff,Nat.reduceEqDiff,pr_len hq,pr_take hq,pr_wait hq,pr_obj hq,w2,n1,n2,hb1,hb2,hs.up.len,List.length_map,min_i,within_spec,decide_eq_false hin]) | (with_reducible ((first | apply xC | apply xG | apply xQ) <;> intro hb <;> try simp only [hb]))))
   exact Frame.add _ _
 ·have w2:(q.wait == 2) = false:=by simpa using hw
  have e:upOk p s q.wait q.obj:=fun g => absurd g hw
  rw [decide_eq_true e]
  simp only [ferry_valid_asked_rules_5]
  (repeat' (first | (simp only [wp,extractV,w0,reduceIte,Nat.reduceAdd,Nat.reduceLT,Nat.reduceLeDiff,Nat.reduceEqDiff,pr_len hq,pr_take hq,pr_wait hq,pr_obj hq,w2,n1,n2,hb1,hb2]) | (with_reducible ((first | apply xC | apply xG | apply xQ) <;> intro hb <;> try simp only [hb]))))
  exact Frame.add _ _
set_option maxRecDepth 20000 in
theorem rules6_ans (n:Nat) (h:AsS k p s a b c d x y z u v w g pr) {i j:Nat} {q:Pr} (hq:Wp q):AnsC (capC i j p s a b c d x y z u v w g) (callV (cfg G) (sem (cfg G) (n + 2)) 176 [.agg (prRow q),.ptr i 0 0,.ptr j 0 0]) (.bool (decide (semOk p s q.wait q.obj))):=by
 intro K hC hK
 have hb1:=(hC _ (List.mem_cons_self ..))
 have hb2:=(hC _ (List.mem_cons_of_mem _ (List.mem_cons_self ..)))
 obtain ⟨hi,hb1⟩:=hb1
 obtain ⟨hj,hb2⟩:=hb2
 have n1:¬ (i = K.next):=by have:i < K.next:=hi; omega
 have n2:¬ (j = K.next):=by have:j < K.next:=hj; omega
 obtain ⟨_,⟨_,hp⟩,_,hs⟩:=h
 rw [callV_inl rfl,ferry_valid_asked_rules_6_eq]
 simp only [] at hb1 hb2
 by_cases hw:q.wait = 3
 ·have w2:(q.wait == 3) = true:=by simpa using hw
  by_cases hin:0 ≤ q.obj ∧ q.obj < (if (p.sems.length:Int) < (s.sems.length:Int) then (p.sems.length:Int) else s.sems.length)
  ·have h2:q.obj < s.sems.length ∧ q.obj < p.sems.length:=by have:=hin.2; split at this <;> omega
   have i2:=hs.sems.idxI (k:=.i64) hin.1 (by simpa using h2.1)
   simp only [List.getElem_map] at i2
   have e:semOk p s q.wait q.obj ↔ (s.sems[q.obj.toNat]'(by omega)) = 0:=by
    unfold semOk
    rw [nth_in hin.1 h2.1]
    simp [hw,h2.2]
   simp only [ferry_valid_asked_rules_6]
   (repeat' (first | (simp only [wp,extractV,w0,reduceIte,Nat.reduceAdd,Nat.reduceLT,Nat.reduceLeDiff,Nat.reduceEqDiff,pr_len hq,pr_take hq,pr_wait hq,pr_obj hq,w2,n1,n2,hb1,hb2,hs.sems.len,hp.sems.len,List.length_map,min_i,within_spec,decide_eq_true hin,i2,intRow]) | (with_reducible ((first | apply xC | apply xG | apply xQ) <;> intro hb <;> try simp only [hb]))))
   refine ⟨boolI ?_,Frame.add _ _⟩
   rw [e]
   simp
  ·have e:semOk p s q.wait q.obj:=fun _ g N h => by
    by_cases h3:0 ≤ q.obj ∧ q.obj < s.sems.length
    ·refine absurd ⟨h3.1,?_⟩ hin
     split <;> omega
    ·rw [nth_out h3] at h
     cases h
   rw [decide_eq_true e]
   simp only [ferry_valid_asked_rules_6]
   (repeat' (first | (simp only [wp,extractV,w0,reduceIte,Nat.reduceAdd,Nat.reduceLT,Nat.reduceLeDiff,Nat.reduceEqDiff,pr_len hq,pr_take hq,pr_wait hq,pr_obj hq,w2,n1,n2,hb1,hb2,hs.sems.len,hp.sems.len,List.length_map,min_i,within_spec,decide_eq_false hin]) | (with_reducible ((first | apply xC | apply xG | apply xQ) <;> intro hb <;> try simp only [hb]))))
   exact Frame.add _ _
 ·have w2:(q.wait == 3) = false:=by simpa using hw
  have e:semOk p s q.wait q.obj:=fun g => absurd g hw
  rw [decide_eq_true e]
  simp only [ferry_valid_asked_rules_6]
  (repeat' (first | (simp only [wp,extractV,w0,reduceIte,Nat.reduceAdd,Nat.reduceLT,Nat.reduceLeDiff,Nat.reduceEqDiff,pr_len hq,pr_take hq,pr_wait hq,pr_obj hq,w2,n1,n2,hb1,hb2]) | (with_reducible ((first | apply xC | apply xG | apply xQ) <;> intro hb <;> try simp only [hb]))))
  exact Frame.add _ _
set_option maxRecDepth 20000 in
theorem queued_spec (n:Nat) (h:AsS k p s a b c d x y z u v w g pr) {q:Pr} (hq:Wp q):callV (cfg G) (sem (cfg G) (n + 2)) 177 [.agg k,.agg (prRow q)] = M.ret (.bool (decide (porOk p s q.wait q.obj))):=by
 refine callV_pure0 rfl (by simp [h.closedV,prC]) rfl ?_
 obtain ⟨rfl,⟨_,hp⟩,_,hs⟩:=h
 rw [ferry_valid_asked_queued_eq]
 by_cases hw:q.wait = 4
 ·have w2:(q.wait == 4) = true:=by simpa using hw
  by_cases hin:0 ≤ q.obj ∧ q.obj < (if (pr.length:Int) < (p.ports.length:Int) then (pr.length:Int) else p.ports.length)
  ·have h2:q.obj < pr.length ∧ q.obj < p.ports.length:=by have:=hin.2; split at this <;> omega
   have i2:=hp.ports.idxI (k:=.i64) hin.1 (by simpa using h2.2)
   have i3:=hs.ports.idxI (k:=.i64) hin.1 h2.1
   simp only [List.getElem_map] at i2
   have e:porOk p s q.wait q.obj ↔ pqOk (p.ports[q.obj.toNat]'(by omega)) (s.ports[q.obj.toNat]'(by rw [← hs.plen]; omega)):=by
    unfold porOk
    rw [nth_in hin.1 h2.2,nth_in hin.1 (by rw [← hs.plen]; exact h2.1)]
    simp [hw]
   have hP:=hs.prow q.obj.toNat (by omega)
   obtain ⟨mv,er,hm,hl⟩:=hP
   rw [er] at i3
   have gd:(decide (¬ (0:Nat) = 2) && decide (¬ (1:Nat) = 2)) = true:=by decide
   simp only [ferry_valid_asked_queued]
   (repeat' (first | (simp only [wp,extractV,w0,reduceIte,Nat.reduceAdd,Nat.reduceLT,Nat.reduceLeDiff,Nat.reduceEqDiff,pr_len hq,pr_take hq,pr_wait hq,pr_obj hq,w2,hp.ports.len,hs.ports.len,List.length_map,min_i,within_spec,decide_eq_true hin,i2,i3,tpR,hm.len,apartV,gd]) | (with_reducible ((first | apply xC | apply xG | apply xQ) <;> intro hb <;> try simp only [hb]))))
   all_goals simp only [beq_iff_eq,beq_eq_false_iff_ne,ne_eq] at *
   all_goals refine boolI (Q:=porOk p s q.wait q.obj) ?_
   all_goals rw [e]
   all_goals unfold pqOk
   all_goals simp only [beq_iff_eq,true_iff]
   all_goals omega
  ·have e:porOk p s q.wait q.obj:=fun _ T h3 r h4 => by
    by_cases h5:0 ≤ q.obj ∧ q.obj < p.ports.length
    ·by_cases h6:0 ≤ q.obj ∧ q.obj < s.ports.length
     ·refine absurd ⟨h5.1,?_⟩ hin
      rw [← hs.plen] at h6
      split <;> omega
     ·rw [nth_out h6] at h4
      cases h4
    ·rw [nth_out h5] at h3
     cases h3
   rw [decide_eq_true e]
   simp only [ferry_valid_asked_queued]
   (repeat' (first | (simp only [wp,extractV,w0,reduceIte,Nat.reduceAdd,Nat.reduceLT,Nat.reduceLeDiff,Nat.reduceEqDiff,pr_len hq,pr_take hq,pr_wait hq,pr_obj hq,w2,hp.ports.len,hs.ports.len,List.length_map,min_i,within_spec,decide_eq_false hin]) | (with_reducible ((first | apply xC | apply xG | apply xQ) <;> intro hb <;> try simp only [hb]))))
 ·have w2:(q.wait == 4) = false:=by simpa using hw
  have e:porOk p s q.wait q.obj:=fun g => absurd g hw
  rw [decide_eq_true e]
  simp only [ferry_valid_asked_queued]
  (repeat' (first | (simp only [wp,extractV,w0,reduceIte,Nat.reduceAdd,Nat.reduceLT,Nat.reduceLeDiff,Nat.reduceEqDiff,pr_len hq,pr_take hq,pr_wait hq,pr_obj hq,w2]) | (with_reducible ((first | apply xC | apply xG | apply xQ) <;> intro hb <;> try simp only [hb]))))
end Sy
end Go.Fv.Tr
