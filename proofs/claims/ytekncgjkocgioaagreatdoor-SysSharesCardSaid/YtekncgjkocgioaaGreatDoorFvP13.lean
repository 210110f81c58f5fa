/-
  What the functions of the layer 8 answer. By an AI agent; no person has read it.
-/
import Derived.Test.YtekncgjkocgioaaGreatDoorFvP12
set_option linter.unusedVariables false
set_option linter.unusedSimpArgs false
set_option linter.unusedSectionVars false
/-! What the functions of the layer 8 answer. -/
namespace Go.Fv.Tr
open Go Go.Fv Go.Fv.Pl Go.Proofs
abbrev i64 (n:Int):V:=.int .i64 n
def tmRow (t:Tm):List V:=[i64 t.proc,i64 t.due]
theorem tm_len (t:Tm):(tmRow t).length = 2:=rfl
theorem tm_take (t:Tm):(tmRow t).take 2 = tmRow t:=rfl
theorem tm_proc (t:Tm):(tmRow t)[0]? = some (.int .i64 t.proc):=rfl
theorem tm_due (t:Tm):(tmRow t)[1]? = some (.int .i64 t.due):=rfl
def big:Nat:=9223372036854775807
theorem addN {i N:Nat} (h:i < N) (hN:N ≤ big):arithV .add (.int .i64 (i:Int)) (.int .i64 1) = some (.int .i64 ((i + 1:Nat):Int)):=by
 unfold big at hN
 exact arith_add (by omega) (by omega)
theorem ltT {i N:Nat} (h:i < N):decide ((i:Int) < (N:Int)) = true:=by simpa using h
theorem ltF {i N:Nat} (h:¬ i < N):decide ((i:Int) < (N:Int)) = false:=by simpa using h
def marks (f:Nat → Bool):List V:=(List.range 8).map fun j => .bool (f j)
theorem marks_none:([.bool false,.bool false,.bool false,.bool false,.bool false,.bool false,.bool false,.bool false]:List V) = marks fun _ => false:=rfl
theorem marks_get (f:Nat → Bool) {n:Nat} (h:n < 8):(marks f)[n]? = some (.bool (f n)):=by simp [marks,h]
theorem marks_len (f:Nat → Bool):(marks f).length = 8:=by simp [marks]
theorem marks_put (f:Nat → Bool) {n:Nat} (h:n < 8):(marks f).take n ++ [.bool true] ++ (marks f).drop (n + 1) = marks fun j => decide (j = n) || f j:=by
 refine List.ext_getElem? fun j => ?_
 by_cases hj:j < n
 ·rw [List.append_assoc,List.getElem?_append_left (by simp [marks_len]; omega),List.getElem?_take_of_lt hj,marks_get _ (by omega),marks_get _ (by omega)]
  simp [show j ≠ n by omega]
 ·by_cases e:j = n
  ·subst e
   rw [List.getElem?_append_left (by simp [marks_len]; omega),List.getElem?_append_right (by rw [List.length_take]; omega),marks_get _ h]
   simp [marks_len,Nat.min_eq_left (Nat.le_of_lt h)]
  ·rw [List.getElem?_append_right (by simp [marks_len]; omega),List.getElem?_drop]
   have e1:((marks f).take n ++ [V.bool true]).length = n + 1:=by simp [marks_len]; omega
   rw [e1,show n + 1 + (j - (n + 1)) = j by omega]
   by_cases h8:j < 8
   ·rw [marks_get _ h8,marks_get _ h8]; simp [e]
   ·rw [List.getElem?_eq_none (by simp [marks_len]; omega),List.getElem?_eq_none (by simp [marks_len]; omega)]
theorem marks_next {l:List Int} {p:Int} (h0:0 ≤ p) (h8:p < 8) :
  (marks fun j => decide (((j:Nat):Int) ∈ l)).take p.toNat ++ [.bool true] ++ (marks fun j => decide (((j:Nat):Int) ∈ l)).drop (p.toNat + 1) = marks fun j => decide (((j:Nat):Int) ∈ l ++ [p]):=by
 rw [marks_put _ (by omega)]
 congr 1
 funext j
 have:(j = p.toNat) ↔ ((j:Nat):Int) = p:=by omega
 simp [this,Bool.or_comm]
theorem aidx_in {l i o n:Nat} {p:Int} (h0:0 ≤ p) (h:p < n):aidxV n 1 (.ptr l i o) (.int .i64 p) = some (.ptr l i (o + p.toNat * 1)):=by
 simp [aidxV,h0,h,padd]
theorem cI {k:IntKind} {n:Int}:(V.int k n).closedV = true:=rfl
theorem nbeq_e {a b:Bool}:((!a) = b) ↔ (a = true ↔ b = false):=by cases a <;> cases b <;> simp
theorem boolE {P Q:Prop} [Decidable P] [Decidable Q] (h:P ↔ Q):V.bool (decide P) = V.bool (decide Q):=by simp [h]
theorem boolI {b:Bool} {Q:Prop} [Decidable Q] (h:b = true ↔ Q):V.bool b = V.bool (decide Q):=by
 cases b <;> simp at h <;> simp [h]
theorem boolT {Q:Prop} [Decidable Q] (h:Q):V.bool true = V.bool (decide Q):=by simp [h]
theorem boolF {Q:Prop} [Decidable Q] (h:¬ Q):V.bool false = V.bool (decide Q):=by simp [h]
variable {G:GV}
theorem right_spec (n:Nat) (t:Tm) (k:Int):callV (cfg G) (sem (cfg G) (n + 1)) 198 [.agg (tmRow t),.int .i64 k] = M.ret (.bool (decide (right k t))):=by
 refine callV_pure0 rfl rfl rfl ?_
 rw [ferry_timer_right_eq]
 simp only [ferry_timer_right,tmRow]
 (repeat' (first | (simp only [wp,extractV,w0,reduceIte,Nat.reduceAdd,Nat.reduceLT,Nat.reduceLeDiff,Nat.reduceEqDiff]) | (with_reducible ((first | apply xC | apply xG | apply xQ) <;> intro hb <;> try simp only [hb]))))
 all_goals ((try simp only [decide_eq_true_eq,decide_eq_false_iff_not,beq_iff_eq,beq_eq_false_iff_ne,ne_eq,bne_iff_ne,nbeq_e,Bool.true_eq_false,Bool.false_eq_true,iff_false,iff_true,Bool.not_eq_true',Bool.not_eq_false'] at *); refine boolI ?_; (try simp only [decide_eq_true_eq,decide_eq_false_iff_not,beq_iff_eq,beq_eq_false_iff_ne,ne_eq,bne_iff_ne,nbeq_e,Bool.true_eq_false,Bool.false_eq_true,iff_false,iff_true,Bool.not_eq_true',Bool.not_eq_false',true_iff,false_iff]); (try unfold right); (try omega))
theorem find_spec (n:Nat) {x:V} {ts:List Tm} (hx:Sls x 2 (ts.map tmRow)) (hl:ts.length ≤ big) (p:Int) :
  callV (cfg G) (sem (cfg G) (n + 1)) 203 [x,.int .i64 p] = M.ret (.tuple [.int .i64 (dueOf ts p),.bool (decide (timed ts p))]):=by
 refine callV_pure0 rfl (by simp [hx.closedV,cI]) rfl ?_
 rw [ferry_timer_Find_eq]
 simp only [ferry_timer_Find]
 (repeat' (first | (simp only [wp,extractV,w0,reduceIte,Nat.reduceAdd,Nat.reduceLT,Nat.reduceLeDiff,Nat.reduceEqDiff,hx.len]) | (with_reducible ((first | apply xC | apply xG | apply xQ) <;> intro hb <;> try simp only [hb]))))
 refine Run.loop (N:=ts.length) (fun i s H => s = [.int .i64 0,.bool false,.int .i64 (i:Nat)] ∧ H.floor = 0 ∧ ∀ t ∈ ts.take i,t.proc ≠ p) (by simp [Heap.empty]) ?_
 rintro i s H hi ⟨rfl,hf,hs⟩
 by_cases hlt:i < ts.length
 ·have h2:=hx.idx (k:=.i64) (i:=i) (by simpa using hlt)
  simp only [List.getElem_map] at h2
  simp only [ferry_timer_Find_l1,List.length_map]
  (repeat' (first | (simp only [wp,extractV,w0,reduceIte,Nat.reduceAdd,Nat.reduceLT,Nat.reduceLeDiff,Nat.reduceEqDiff,ltT hlt,h2,addN hlt hl,tmRow,hf]) | (with_reducible ((first | apply xC | apply xG | apply xQ) <;> intro hb <;> try simp only [hb]))))
  ·have hb:ts[i].proc = p:=by simpa using hb
   have:ts.find? (fun t => t.proc == p) = some ts[i]:=by
    rw [List.find?_eq_some_iff_getElem]
    refine ⟨by simpa using hb,i,hlt,rfl,fun j hj => ?_⟩
    have:=hs ts[j] (List.mem_take_iff_getElem.2 ⟨j,by omega,rfl⟩)
    simpa using this
   have h3:timed ts p:=List.mem_map.2 ⟨ts[i],List.getElem_mem _,hb⟩
   simp [dueOf,this,h3]
  ·have hb:ts[i].proc ≠ p:=by simpa using hb
   refine ⟨hlt,fun t ht => ?_⟩
   rw [take_snoc hlt] at ht
   rcases List.mem_append.1 ht with h | h
   ·exact hs t h
   ·rw [List.mem_singleton] at h; subst h; exact hb
 ·simp only [ferry_timer_Find_l1,List.length_map]
  (repeat' (first | (simp only [wp,extractV,w0,reduceIte,Nat.reduceAdd,Nat.reduceLT,Nat.reduceLeDiff,Nat.reduceEqDiff,ltF hlt]) | (with_reducible ((first | apply xC | apply xG | apply xQ) <;> intro hb <;> try simp only [hb]))))
  rw [take_all (by omega)] at hs
  have h1:ts.find? (fun t => t.proc == p) = none:=by
   rw [List.find?_eq_none]
   intro t ht
   simpa using hs t ht
  have h2:¬ timed ts p:=fun h => by
   obtain ⟨t,ht,e⟩:=List.mem_map.1 h
   exact hs t ht e
  simp [dueOf,h1,h2]
theorem nan_spec (n:Nat) (a:Int):callV (cfg G) (sem (cfg G) (n + 1)) 257 [.int .i64 a] = M.ret (.bool false):=by
 refine callV_pure0 rfl rfl rfl ?_
 rw [cmp_isNaN_int_eq]
 simp only [cmp_isNaN_int]
 (repeat' (first | (simp only [wp,extractV,w0,reduceIte,Nat.reduceAdd,Nat.reduceLT,Nat.reduceLeDiff,Nat.reduceEqDiff]) | (with_reducible ((first | apply xC | apply xG | apply xQ) <;> intro hb <;> try simp only [hb]))))
 all_goals simp_all
def cmpI (a b:Int):Int:=if a < b then -1 else if b < a then 1 else 0
theorem cmp_spec (n:Nat) (a b:Int):callV (cfg G) (sem (cfg G) (n + 2)) 240 [.int .i64 a,.int .i64 b] = M.ret (.int .i64 (cmpI a b)):=by
 refine callV_pure0 rfl rfl rfl ?_
 rw [cmp_Compare_int_eq]
 simp only [cmp_Compare_int]
 (repeat' (first | (simp only [wp,extractV,w0,reduceIte,Nat.reduceAdd,Nat.reduceLT,Nat.reduceLeDiff,Nat.reduceEqDiff,nan_spec]) | (with_reducible ((first | apply xC | apply xG | apply xQ) <;> intro hb <;> try simp only [hb]))))
 all_goals (simp only [decide_eq_true_eq,decide_eq_false_iff_not] at *; simp only [cmpI,V.int.injEq,true_and]; (repeat' split) <;> omega)
theorem or_spec (n:Nat) (a b:Int):callV (cfg G) (sem (cfg G) (n + 1)) 239 [.imm 1 [[.int .i64 a],[.int .i64 b]]] = M.ret (.int .i64 (if a ≠ 0 then a else b)):=by
 refine callV_pure0 rfl rfl rfl ?_
 rw [cmp_Or_int_eq]
 simp only [cmp_Or_int]
 have hx:Sls (.imm 1 [[.int .i64 a],[.int .i64 b]]) 1 [[.int .i64 a],[.int .i64 b]]:=Sls.imm _ _
 (repeat' (first | (simp only [wp,extractV,w0,reduceIte,Nat.reduceAdd,Nat.reduceLT,Nat.reduceLeDiff,Nat.reduceEqDiff,hx.len]) | (with_reducible ((first | apply xC | apply xG | apply xQ) <;> intro hb <;> try simp only [hb]))))
 refine Run.loop (N:=2) (fun i s H => s = [.int .i64 0,.int .i64 (i:Nat)] ∧ H.floor = 0 ∧ (0 < i → a = 0) ∧ (1 < i → b = 0)) (by simp [Heap.empty]) ?_
 rintro i s H hi ⟨rfl,hf,h1,h2⟩
 have hc:i = 0 ∨ i = 1 ∨ i = 2:=by omega
 rcases hc with rfl | rfl | rfl
 ·have e0:=hx.idx (k:=.i64) (i:=0) (by simp)
  simp only [cmp_Or_int_l1]
  (repeat' (first | (simp only [wp,extractV,w0,reduceIte,Nat.reduceAdd,Nat.reduceLT,Nat.reduceLeDiff,Nat.reduceEqDiff,e0,ltT (show 0 < 2 by omega),addN (show 0 < 2 by omega) (show 2 ≤ big by decide),List.getElem_cons_zero]) | (with_reducible ((first | apply xC | apply xG | apply xQ) <;> intro hb <;> try simp only [hb]))))
  all_goals simp_all
 ·have e0:=hx.idx (k:=.i64) (i:=1) (by simp)
  simp only [cmp_Or_int_l1]
  (repeat' (first | (simp only [wp,extractV,w0,reduceIte,Nat.reduceAdd,Nat.reduceLT,Nat.reduceLeDiff,Nat.reduceEqDiff,e0,ltT (show 1 < 2 by omega),addN (show 1 < 2 by omega) (show 2 ≤ big by decide),List.getElem_cons_succ,List.getElem_cons_zero]) | (with_reducible ((first | apply xC | apply xG | apply xQ) <;> intro hb <;> try simp only [hb]))))
  all_goals simp_all
 ·simp only [cmp_Or_int_l1]
  (repeat' (first | (simp only [wp,extractV,w0,reduceIte,Nat.reduceAdd,Nat.reduceLT,Nat.reduceLeDiff,Nat.reduceEqDiff,ltF (show ¬ 2 < 2 by omega)]) | (with_reducible ((first | apply xC | apply xG | apply xQ) <;> intro hb <;> try simp only [hb]))))
  all_goals simp_all
def cmpT (a b:Tm):Int:=if cmpI a.due b.due ≠ 0 then cmpI a.due b.due else cmpI a.proc b.proc
set_option maxRecDepth 20000 in
theorem compare_spec (n:Nat) (a b:Tm):callV (cfg G) (sem (cfg G) (n + 3)) 201 [.agg (tmRow a),.agg (tmRow b)] = M.ret (.int .i64 (cmpT a b)):=by
 refine callV_pure0 rfl rfl rfl ?_
 rw [ferry_timer_compare_eq]
 simp only [ferry_timer_compare,tmRow]
 (repeat' (first | (simp only [wp,extractV,w0,reduceIte,Nat.reduceAdd,Nat.reduceLT,Nat.reduceLeDiff,Nat.reduceEqDiff,cmp_spec,Run.slice,fillRows,List.replicate_succ,List.replicate_zero,List.set_cons_succ]) | (with_reducible ((first | apply xC | apply xG | apply xQ) <;> intro hb <;> try simp only [hb]))))
 rw [Run.qcallRef rfl (bs:=[.imm 1 [[.int .i64 (cmpI a.due b.due)],[.int .i64 (cmpI a.proc b.proc)]]]) ?_ rfl (or_spec _ _ _) rfl]
 ·(repeat' (first | (simp only [wp,extractV,w0,reduceIte,Nat.reduceAdd,Nat.reduceLT,Nat.reduceLeDiff,Nat.reduceEqDiff]) | (with_reducible ((first | apply xC | apply xG | apply xQ) <;> intro hb <;> try simp only [hb]))))
  rfl
 ·rfl
theorem cmpT_neg {a b:Tm}:cmpT a b < 0 ↔ before a b:=by
 unfold cmpT cmpI before
 (repeat' split) <;> omega
theorem good_spec (n:Nat) {x:V} {ts:List Tm} (hx:Sls x 2 (ts.map tmRow)) (hl:ts.length ≤ big) {k:Nat} (hk:k ≤ 8) :
  callV (cfg G) (sem (cfg G) (n + 4)) 197 [x,.int .i64 k] = M.ret (.bool (decide (TsOk k ts))):=by
 refine callV_pure0 rfl (by simp [hx.closedV,cI]) rfl ?_
 rw [ferry_timer_good_eq]
 simp only [ferry_timer_good,marks_none]
 (repeat' (first | (simp only [wp,extractV,w0,reduceIte,Nat.reduceAdd,Nat.reduceLT,Nat.reduceLeDiff,Nat.reduceEqDiff,hx.len,List.length_map]) | (with_reducible ((first | apply xC | apply xG | apply xQ) <;> intro hb <;> try simp only [hb]))))
 refine Run.loop (N:=ts.length) (fun i s H => s = [.bool false,.int .i64 (i:Nat)] ∧ H.floor = 0 ∧ 0 < H.next ∧ H.blk 0 = some ⟨8,[marks fun j => decide (((j:Nat):Int) ∈ (ts.take i).map Tm.proc)]⟩ ∧ TsOk k (ts.take i))
  ⟨rfl,rfl,by simp [Heap.add_next],by simp [Heap.add_blk,Heap.empty_next,marks_len],.nil⟩ ?_
 rintro i s H hi ⟨rfl,hf,hn,hb0,hok⟩
 by_cases hlt:i < ts.length
 ·have h2:=hx.idx (k:=.i64) (i:=i) (by simpa using hlt)
  simp only [List.getElem_map] at h2
  have hz:¬ 0 = H.next:=by omega
  have hno:TsOk k ts → TsOk k (ts.take i) ∧ right k ts[i] ∧ ts[i].proc ∉ (ts.take i).map Tm.proc ∧ ∀ a,(ts.take i).getLast? = some a → before a ts[i]:=fun h => by
   have:=h.take (i + 1)
   rw [take_snoc hlt,TsOk_snoc] at this
   exact this
  by_cases hr:right k ts[i]
  ·have ha:aidxV 8 1 (.ptr 0 0 0) (.int .i64 ts[i].proc) = some (.ptr 0 0 ts[i].proc.toNat):=by
    have:=aidx_in (l:=0) (i:=0) (o:=0) hr.1 (n:=8) (by have:=hr.2.1; omega)
    rwa [Nat.mul_one,Nat.zero_add] at this
   have h8:ts[i].proc.toNat < 8:=by have:=hr.2.1; have:=hr.1; omega
   have hg:=marks_get (fun j => decide (((j:Nat):Int) ∈ (ts.take i).map Tm.proc)) h8
   have hle:ts[i].proc.toNat + 1 ≤ (marks fun j => decide (((j:Nat):Int) ∈ (ts.take i).map Tm.proc)).length:=by rw [marks_len]; omega
   simp only [Int.toNat_of_nonneg hr.1] at hg
   have hmk:=marks_next (l:=(ts.take i).map Tm.proc) hr.1 (by have:=hr.2.1; omega:ts[i].proc < 8)
   rw [show (ts.take i).map Tm.proc ++ [ts[i].proc] = (ts.take (i + 1)).map Tm.proc by rw [take_snoc hlt,List.map_append]; rfl] at hmk
   rcases Nat.eq_zero_or_pos i with h0 | h0
   ·have hgt:decide ((0:Int) < (i:Int)) = false:=by simp; omega
    simp only [ferry_timer_good_l1]
    (repeat' (first | (simp only [wp,extractV,w0,reduceIte,Nat.reduceAdd,Nat.reduceLT,Nat.reduceLeDiff,Nat.reduceEqDiff,ltT hlt,h2,addN hlt hl,hf,right_spec,hb0,hz,hn,tm_len,tm_take,tm_proc,tm_due,ha,hg,decide_eq_true hr,hgt,hle]) | (with_reducible ((first | apply xC | apply xG | apply xQ) <;> intro hb <;> try simp only [hb]))))
    ·exact boolF fun h => (hno h).2.2.1 (of_decide_eq_true hb)
    ·refine ⟨hlt,by rw [hmk],?_⟩
     rw [take_snoc hlt,TsOk_snoc]
     refine ⟨hok,hr,of_decide_eq_false hb,fun a ha => ?_⟩
     subst h0
     simp at ha
   ·have h3:=hx.idx (k:=.i64) (i:=i - 1) (by simp; omega)
    simp only [List.getElem_map,Int.natCast_sub h0,Int.natCast_one] at h3
    have hgt:decide ((0:Int) < (i:Int)) = true:=by simpa using h0
    have hlast:(ts.take i).getLast? = some ts[i - 1]:=by
     have:=last_take (l:=ts) (i:=i - 1) (by omega)
     rwa [show i - 1 + 1 = i by omega] at this
    have hsub:arithV .sub (.int .i64 (i:Int)) (.int .i64 1) = some (.int .i64 ((i:Int) - 1)):=arith_sub (by omega) (by unfold big at hl; omega)
    simp only [ferry_timer_good_l1]
    (repeat' (first | (simp only [wp,extractV,w0,reduceIte,Nat.reduceAdd,Nat.reduceLT,Nat.reduceLeDiff,Nat.reduceEqDiff,ltT hlt,h2,addN hlt hl,hf,right_spec,hb0,hz,hn,tm_len,tm_take,tm_proc,tm_due,ha,hg,decide_eq_true hr,Bool.not_true,Bool.not_false,hgt,h3,hsub,compare_spec,hle]) | (with_reducible ((first | apply xC | apply xG | apply xQ) <;> intro hb <;> try simp only [hb]))))
    ·exact boolF fun h => (hno h).2.2.1 (of_decide_eq_true hb)
    ·refine boolF fun h => ?_
     have:=cmpT_neg.2 ((hno h).2.2.2 _ hlast)
     have:=of_decide_eq_true hb
     omega
    ·refine ⟨hlt,by rw [hmk],?_⟩
     rw [take_snoc hlt,TsOk_snoc]
     refine ⟨hok,hr,of_decide_eq_false (by assumption),fun a ha => ?_⟩
     rw [hlast] at ha
     cases ha
     have:=of_decide_eq_false hb
     exact cmpT_neg.1 (by omega)
  ·simp only [ferry_timer_good_l1]
   (repeat' (first | (simp only [wp,extractV,w0,reduceIte,Nat.reduceAdd,Nat.reduceLT,Nat.reduceLeDiff,Nat.reduceEqDiff,ltT hlt,h2,addN hlt hl,hf,right_spec,hb0,hz,hn,tm_len,tm_take,tm_proc,tm_due,decide_eq_false hr]) | (with_reducible ((first | apply xC | apply xG | apply xQ) <;> intro hb <;> try simp only [hb]))))
   exact boolF fun h => hr (hno h).2.1
 ·simp only [ferry_timer_good_l1]
  (repeat' (first | (simp only [wp,extractV,w0,reduceIte,Nat.reduceAdd,Nat.reduceLT,Nat.reduceLeDiff,Nat.reduceEqDiff,ltF hlt]) | (with_reducible ((first | apply xC | apply xG | apply xQ) <;> intro hb <;> try simp only [hb]))))
  rw [take_all (by omega)] at hok
  simp [hok]
def errV (g:Nat):V:=.iface 315 (.ext g)
theorem eq_err {c:Bool} {g:Nat}:eqV .iface c (errV g) .nili = some false:=rfl
structure Errs (G:GV):Prop where
 state:G 2 = some [errV 2]
 none:G 16 = some [errV 16]
 arg:G 0 = some [errV 0]
theorem glob_at {g:Nat} {row:List V} (h:G g = some row):glob (cfg G) g = .iptr row 0:=by
 simp only [glob,cfg,h]
def orNil (b:Prop) [Decidable b] (g:Nat):V:=if b then .nili else errV g
theorem check_spec (hG:Errs G) (n:Nat) {x:V} {ts:List Tm} (hx:Sls x 2 (ts.map tmRow)) (hl:ts.length ≤ big) {k:Nat} (hk:k ≤ 8) :
  callV (cfg G) (sem (cfg G) (n + 5)) 202 [x,.int .i64 k] = M.ret (orNil (TsOk k ts) 2):=by
 refine callV_pure0 rfl (by simp [hx.closedV,cI]) (by unfold orNil; split <;> rfl) ?_
 rw [ferry_timer_Check_eq]
 have e0:decide ((k:Int) < 0) = false:=by simp
 have e1:decide ((8:Int) < (k:Int)) = false:=by simp; omega
 simp only [ferry_timer_Check]
 (repeat' (first | (simp only [wp,extractV,w0,reduceIte,Nat.reduceAdd,Nat.reduceLT,Nat.reduceLeDiff,Nat.reduceEqDiff,e0,e1,good_spec n hx hl hk,glob_at hG.state]) | (with_reducible ((first | apply xC | apply xG | apply xQ) <;> intro hb <;> try simp only [hb]))))
 all_goals simp_all [orNil]
def prRow (p:Pr):List V:=p.regs.map (fun n => .int .u32 n) ++ [.int .u32 p.pc,.int .i64 p.state,.int .i64 p.prio,.int .i64 p.wait,.int .i64 p.obj]
def Wp (p:Pr):Prop:=p.regs.length = 16
theorem pr_len {p:Pr} (h:Wp p):(prRow p).length = 21:=by simp [prRow,show p.regs.length = 16 from h]
theorem pr_take {p:Pr} (h:Wp p):(prRow p).take 21 = prRow p:=List.take_of_length_le (by rw [pr_len h]; omega)
theorem pr_at {p:Pr} (h:Wp p) (k:Nat):(prRow p)[16 + k]? = ([.int .u32 p.pc,.int .i64 p.state,.int .i64 p.prio,.int .i64 p.wait,.int .i64 p.obj]:List V)[k]?:=by
 rw [prRow,List.getElem?_append_right (by simp [show p.regs.length = 16 from h])]
 simp [show p.regs.length = 16 from h]
theorem pr_state {p:Pr} (h:Wp p):(prRow p)[17]? = some (.int .i64 p.state):=pr_at h 1
theorem pr_prio {p:Pr} (h:Wp p):(prRow p)[18]? = some (.int .i64 p.prio):=pr_at h 2
theorem pr_wait {p:Pr} (h:Wp p):(prRow p)[19]? = some (.int .i64 p.wait):=pr_at h 3
theorem pr_obj {p:Pr} (h:Wp p):(prRow p)[20]? = some (.int .i64 p.obj):=pr_at h 4
def reg0 (p:Pr):Int:=(p.regs[0]?).getD 1
theorem pr_reg0 {p:Pr} (h:Wp p):(prRow p)[0]? = some (.int .u32 (reg0 p)):=by
 have h0:0 < p.regs.length:=by rw [show p.regs.length = 16 from h]; omega
 rw [prRow,List.getElem?_append_left (by simpa using h0)]
 simp [reg0,h0]
theorem reg0_iff {p:Pr}:p.regs[0]? = some 0 ↔ reg0 p = 0:=by
 unfold reg0
 cases p.regs[0]? <;> simp
theorem aidx0 {m l i o:Nat}:aidxV (m + 1) 1 (.ptr l i o) (.int .i64 0) = some (.ptr l i o):=by
 have:=aidx_in (l:=l) (i:=i) (o:=o) (n:=m + 1) (p:=0) (by omega) (by omega)
 simpa using this
theorem prOk_iff {p:Pr}:PrOk p ↔ reg0 p = 0 ∧ (0 ≤ p.state ∧ p.state ≤ 3) ∧ (0 ≤ p.prio ∧ p.prio ≤ 255) ∧ (0 ≤ p.wait ∧ p.wait ≤ 4) ∧ (p.wait ≠ 0 ↔ p.state = 2) ∧ 0 ≤ p.obj ∧ (p.obj = 0 ∨ p.wait ≠ 0 ∧ p.wait ≠ 1):=by
 rw [← reg0_iff]; rfl
theorem goodProc_spec (n:Nat) {p:Pr} (h:Wp p):callV (cfg G) (sem (cfg G) (n + 1)) 204 [.agg (prRow p)] = M.ret (.bool (decide (PrOk p))):=by
 refine callV_pure0 rfl ?_ rfl ?_
 ·simp [V.closedV,prRow,V.closed,V.flat]
 rw [ferry_ready_goodProc_eq]
 simp only [ferry_ready_goodProc]
 (repeat' (first | (simp only [wp,extractV,w0,reduceIte,Nat.reduceAdd,Nat.reduceLT,Nat.reduceLeDiff,Nat.reduceEqDiff,aidx0,pr_reg0 h,pr_state h,pr_prio h,pr_wait h,pr_obj h,pr_len h,pr_take h]) | (with_reducible ((first | apply xC | apply xG | apply xQ) <;> intro hb <;> try simp only [hb]))))
 all_goals ((try simp only [decide_eq_true_eq,decide_eq_false_iff_not,beq_iff_eq,beq_eq_false_iff_ne,ne_eq,bne_iff_ne,nbeq_e,Bool.true_eq_false,Bool.false_eq_true,iff_false,iff_true,Bool.not_eq_true',Bool.not_eq_false'] at *); refine boolI ?_; (try simp only [decide_eq_true_eq,decide_eq_false_iff_not,beq_iff_eq,beq_eq_false_iff_ne,ne_eq,bne_iff_ne,nbeq_e,Bool.true_eq_false,Bool.false_eq_true,iff_false,iff_true,Bool.not_eq_true',Bool.not_eq_false',true_iff,false_iff]); (try rw [prOk_iff]); (try omega))
def intRow (n:Int):List V:=[.int .i64 n]
theorem ir_at (n:Int):(intRow n)[0]? = some (.int .i64 n):=rfl
structure IsTab (x y z:V) (t:Tab):Prop where
 p:Sls x 21 (t.ps.map prRow)
 q:Sls y 1 (t.q.map intRow)
 s:Sls z 2 (t.ts.map tmRow)
 wp:∀ p ∈ t.ps,Wp p
 big:t.ps.length ≤ big ∧ t.q.length ≤ big ∧ t.ts.length ≤ big
theorem IsTab.closed {x y z:V} {t:Tab} (h:IsTab x y z t):(V.agg [x,y,z]).closedV = true:=by
 simp [V.closedV,h.p.closed,h.q.closed,h.s.closed]
theorem IsTab.at {x y z:V} {t:Tab} (h:IsTab x y z t) {n:Int} {p:Pr} (hp:at? t.ps n = some p):idxV 21 x (.int .i64 n) = some (.iptr (prRow p) 0) ∧ Wp p:=by
 have h0:=(at?_lt hp).1
 have h1:=(at?_lt hp).2
 unfold at? at hp
 rw [if_pos h0] at hp
 obtain ⟨hi,e⟩:=List.getElem?_eq_some_iff.1 hp
 have:=h.p.idxI (k:=.i64) h0 (by simp; omega)
 simp only [List.getElem_map,e] at this
 exact ⟨this,e ▸ h.wp _ (List.getElem_mem _)⟩
def QPre (ps:List Pr) (q:List Int):Prop:=(∀ n ∈ q,isReady ps n) ∧ q.Nodup
theorem QPre_snoc {ps:List Pr} {q:List Int} {n:Int}:QPre ps (q ++ [n]) ↔ QPre ps q ∧ isReady ps n ∧ n ∉ q:=by
 unfold QPre
 constructor
 ·rintro ⟨h1,h2⟩
  rw [List.nodup_append] at h2
  exact ⟨⟨fun m hm => h1 m (by simp [hm]),h2.1⟩,h1 n (by simp),fun hm => h2.2.2 n hm n (by simp) rfl⟩
 ·rintro ⟨⟨h1,h2⟩,h3,h4⟩
  refine ⟨fun m hm => ?_,?_⟩
  ·rcases List.mem_append.1 hm with h | h
   ·exact h1 m h
   ·rw [List.mem_singleton] at h; subst h; exact h3
  ·rw [List.nodup_append]
   refine ⟨h2,by simp,fun a ha b hb => ?_⟩
   rw [List.mem_singleton] at hb
   subst hb
   rintro rfl
   exact h4 ha
theorem QPre.take {ps:List Pr} {q:List Int} (h:QPre ps q) (i:Nat):QPre ps (q.take i):=⟨fun n hn => h.1 n (List.mem_of_mem_take hn),List.Nodup.sublist (List.take_sublist _ _) h.2⟩
theorem goodQueue_spec (n:Nat) {x y z:V} {t:Tab} (h:IsTab x y z t) (h8:t.ps.length ≤ 8) :
  callV (cfg G) (sem (cfg G) (n + 1)) 205 [.agg [x,y,z]] = M.ret (.bool (decide (QOk t.ps t.q))):=by
 refine callV_pure0 rfl (by simp [h.closed]) rfl ?_
 rw [ferry_ready_goodQueue_eq]
 simp only [ferry_ready_goodQueue,marks_none]
 (repeat' (first | (simp only [wp,extractV,w0,reduceIte,Nat.reduceAdd,Nat.reduceLT,Nat.reduceLeDiff,Nat.reduceEqDiff,h.q.len,List.length_map]) | (with_reducible ((first | apply xC | apply xG | apply xQ) <;> intro hb <;> try simp only [hb]))))
 refine Run.loop (N:=t.q.length) (fun i s H => s = [.bool false,.int .i64 (i:Nat)] ∧ H.floor = 0 ∧ H.next = 2 ∧ H.blk 0 = some ⟨3,[[x,y,z]]⟩ ∧ H.blk 1 = some ⟨8,[marks fun j => decide (((j:Nat):Int) ∈ t.q.take i)]⟩ ∧ QPre t.ps (t.q.take i))
  ⟨rfl,rfl,rfl,by simp [Heap.add_blk,Heap.add_next,Heap.empty_next],by simp [Heap.add_blk,Heap.add_next,Heap.empty_next,marks_len],by simp [QPre]⟩ ?_
 rintro i s H hi ⟨rfl,hf,hn,hb0,hb1,hok⟩
 by_cases hlt:i < t.q.length
 ·have h2:=h.q.idx (k:=.i64) (i:=i) (by simpa using hlt)
  simp only [List.getElem_map] at h2
  have hno:QOk t.ps t.q → isReady t.ps t.q[i] ∧ t.q[i] ∉ t.q.take i:=fun g => by
   have:QPre t.ps t.q:=⟨g.1,g.2.1⟩
   have:=this.take (i + 1)
   rw [take_snoc hlt,QPre_snoc] at this
   exact this.2
  by_cases hr:0 ≤ t.q[i] ∧ t.q[i] < t.ps.length
  ·have e1:decide (t.q[i] < 0) = false:=by simp; omega
   have e2:decide ((t.ps.length:Int) ≤ t.q[i]) = false:=by simp; omega
   have ha:aidxV 8 1 (.ptr 1 0 0) (.int .i64 t.q[i]) = some (.ptr 1 0 t.q[i].toNat):=by
    have:=aidx_in (l:=1) (i:=0) (o:=0) hr.1 (n:=8) (by omega)
    rwa [Nat.mul_one,Nat.zero_add] at this
   have hg:=marks_get (fun j => decide (((j:Nat):Int) ∈ t.q.take i)) (show t.q[i].toNat < 8 by omega)
   have hle:t.q[i].toNat + 1 ≤ (marks fun j => decide (((j:Nat):Int) ∈ t.q.take i)).length:=by rw [marks_len]; omega
   simp only [Int.toNat_of_nonneg hr.1] at hg
   have hmk:=marks_next (l:=t.q.take i) hr.1 (by omega:t.q[i] < 8)
   rw [← take_snoc hlt] at hmk
   have hp:at? t.ps t.q[i] = some (t.ps[t.q[i].toNat]'(by omega)):=at?_some.2 ⟨hr.1,List.getElem?_eq_getElem _⟩
   obtain ⟨h5,hw⟩:=h.at hp
   have hrd:isReady t.ps t.q[i] ↔ (t.ps[t.q[i].toNat]'(by omega)).state = 1:=by unfold isReady; rw [hp]; simp
   simp only [ferry_ready_goodQueue_l1]
   (repeat' (first | (simp only [wp,extractV,w0,reduceIte,Nat.reduceAdd,Nat.reduceLT,Nat.reduceLeDiff,Nat.reduceEqDiff,ltT hlt,h2,addN hlt h.big.2.1,hf,hb0,hb1,ir_at,h.p.len,List.length_map,e1,e2,ha,hg,hle,h5,pr_state hw,hn]) | (with_reducible ((first | apply xC | apply xG | apply xQ) <;> intro hb <;> try simp only [hb]))))
   ·exact boolF fun g => (hno g).2 (of_decide_eq_true hb)
   ·refine ⟨hlt,by rw [hmk],?_⟩
    rw [take_snoc hlt,QPre_snoc]
    exact ⟨hok,hrd.2 (by simpa using hb),of_decide_eq_false (by assumption)⟩
   ·refine boolF fun g => ?_
    have:=hrd.1 (hno g).1
    simp [this] at hb
  ·simp only [ferry_ready_goodQueue_l1]
   (repeat' (first | (simp only [wp,extractV,w0,reduceIte,Nat.reduceAdd,Nat.reduceLT,Nat.reduceLeDiff,Nat.reduceEqDiff,ltT hlt,h2,addN hlt h.big.2.1,hf,hb0,hb1,ir_at,h.p.len,List.length_map]) | (with_reducible ((first | apply xC | apply xG | apply xQ) <;> intro hb <;> try simp only [hb]))))
   ·exact boolF fun g => hr (hno g).1.lt
   ·exact boolF fun g => hr (hno g).1.lt
   ·exfalso
    simp only [decide_eq_true_eq,decide_eq_false_iff_not] at *
    omega
 ·simp only [ferry_ready_goodQueue_l1]
  (repeat' (first | (simp only [wp,extractV,w0,reduceIte,Nat.reduceAdd,Nat.reduceLT,Nat.reduceLeDiff,Nat.reduceEqDiff,ltF hlt,hb0,h.p.len,List.length_map]) | (with_reducible ((first | apply xC | apply xG | apply xQ) <;> intro hb <;> try simp only [hb]))))
  rw [take_all (by omega)] at hok hb1
  refine Run.loop (N:=t.ps.length) (fun i s H => s = [.bool false,.int .i64 (i:Nat)] ∧ H.floor = 0 ∧ 2 ≤ H.next ∧ H.blk 1 = some ⟨8,[marks fun j => decide (((j:Nat):Int) ∈ t.q)]⟩ ∧ ∀ j,j < i → isReady t.ps (j:Nat) → ((j:Nat):Int) ∈ t.q)
   ⟨rfl,hf,by omega,hb1,by simp⟩ ?_
  rintro i s H hi ⟨rfl,hf,hn,hb1,hall⟩
  by_cases hlt:i < t.ps.length
  ·have h2:=h.p.idx (k:=.i64) (i:=i) (by simpa using hlt)
   simp only [List.getElem_map] at h2
   have hw:=h.wp _ (List.getElem_mem hlt)
   have ha:aidxV 8 1 (.ptr 1 0 0) (.int .i64 (i:Int)) = some (.ptr 1 0 i):=by
    have:=aidx_in (l:=1) (i:=0) (o:=0) (p:=i) (by omega) (n:=8) (by omega)
    rwa [Nat.mul_one,Nat.zero_add,Int.toNat_natCast] at this
   have hg:=marks_get (fun j => decide (((j:Nat):Int) ∈ t.q)) (show i < 8 by omega)
   have hrd:=isReady_iff (List.getElem?_eq_getElem hlt)
   have hne:¬ 1 = H.next:=by omega
   have hlt1:1 < H.next:=by omega
   simp only [ferry_ready_goodQueue_l2]
   (repeat' (first | (simp only [wp,extractV,w0,reduceIte,Nat.reduceAdd,Nat.reduceLT,Nat.reduceLeDiff,Nat.reduceEqDiff,ltT hlt,h2,addN hlt h.big.1,hf,hb1,pr_len hw,pr_take hw,pr_state hw,ha,hg,hne,hlt1]) | (with_reducible ((first | apply xC | apply xG | apply xQ) <;> intro hb <;> try simp only [hb]))))
   ·refine ⟨hlt,by omega,fun j hj hr => ?_⟩
    rcases Nat.lt_succ_iff_lt_or_eq.1 hj with g | rfl
    ·exact hall j g hr
    ·exact of_decide_eq_true hb
   ·exact boolF fun g => of_decide_eq_false hb (g.2.2 i hlt (hrd.2 (by simp_all)))
   ·refine ⟨hlt,by omega,fun j hj hr => ?_⟩
    rcases Nat.lt_succ_iff_lt_or_eq.1 hj with g | rfl
    ·exact hall j g hr
    ·have:=hrd.1 hr
     simp [this] at hb
  ·simp only [ferry_ready_goodQueue_l2]
   (repeat' (first | (simp only [wp,extractV,w0,reduceIte,Nat.reduceAdd,Nat.reduceLT,Nat.reduceLeDiff,Nat.reduceEqDiff,ltF hlt]) | (with_reducible ((first | apply xC | apply xG | apply xQ) <;> intro hb <;> try simp only [hb]))))
   exact boolT ⟨hok.1,hok.2,fun j hj => hall j (by omega)⟩
end Go.Fv.Tr
