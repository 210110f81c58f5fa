/-
  plan.Check: what it asks of a plan. By an AI agent; no person has read it.
-/
import Derived.Test.YtekncgjkocgioaaGreatDoorFvP25
import Derived.Test.YtekncgjkocgioaaGreatDoorFvP26
set_option linter.unusedVariables false
set_option linter.unusedSimpArgs false
set_option linter.unusedSectionVars false
/-! plan.Check: what it asks of a plan. -/
namespace Go.Fv.Tr
open Go Go.Fv Go.Fv.Pl Go.Proofs
variable {G:GV}
namespace Sy
def sentB:List Nat:=[6,7,9,1,2,11,0,13,16]
def isB (g:Nat):Bool:=sentB.contains g
structure BErrs (G:GV):Prop where
 at_:∀ g,isB g = true → G g = some [errV g]
theorem glob_b (hA:BErrs G) {j:Nat} (h:isB j = true):glob (cfg G) j = .iptr [errV j] 0:=glob_at (hA.at_ j h)
theorem bs_ok:isB 6 = true ∧ isB 7 = true ∧ isB 9 = true ∧ isB 1 = true ∧ isB 2 = true ∧ isB 11 = true ∧ isB 0 = true ∧ isB 13 = true ∧ isB 16 = true:=⟨rfl,rfl,rfl,rfl,rfl,rfl,rfl,rfl,rfl⟩
theorem all_snoc {α:Type} {P:α → Prop} {l:List α} {i:Nat} (h:i < l.length):(∀ q ∈ l.take (i + 1),P q) ↔ (∀ q ∈ l.take i,P q) ∧ P l[i]:=by
 rw [take_snoc h]
 simp only [List.mem_append,List.mem_singleton]
 constructor
 ·exact fun g => ⟨fun q hq => g q (.inl hq),g _ (.inr rfl)⟩
 ·rintro ⟨g,g'⟩ q (hq | rfl)
  ·exact g q hq
  ·exact g'
theorem not_all {α:Type} {P:α → Prop} {l:List α} {i:Nat} (h:i < l.length) (hp:¬ P l[i]):¬ ∀ q ∈ l,P q:=fun g => hp (g _ (List.getElem_mem h))
def ErrG (ok:Prop) (e:V):Prop:=(ok ∧ e = .nili) ∨ (¬ ok ∧ ∃ g,e = errV g)
def atV (k:Int) (g:Nat):V:=.iface 127 (.iptr [i64 k,errV g] 0)
def ErrIf (ok:Prop) (e:V):Prop:=(ok ∧ e = .nili) ∨ (¬ ok ∧ ((∃ g,e = errV g) ∨ ∃ k g,e = atV k g))
theorem ErrG.if_ {ok:Prop} {e:V} (h:ErrG ok e):ErrIf ok e:=by
 rcases h with ⟨g,e⟩ | ⟨g,r⟩
 ·exact .inl ⟨g,e⟩
 ·exact .inr ⟨g,.inl r⟩
theorem ErrIf.closedV {ok:Prop} {e:V} (h:ErrIf ok e):e.closedV = true:=by
 rcases h with ⟨_,rfl⟩ | ⟨_,⟨_,rfl⟩ | ⟨_,_,rfl⟩⟩ <;> rfl
theorem ErrIf.imp {e:V} {ok ok':Prop} (h:ErrIf ok e) (hi:ok ↔ ok'):ErrIf ok' e:=by
 rcases h with ⟨g,e⟩ | ⟨g,r⟩
 ·exact .inl ⟨hi.1 g,e⟩
 ·exact .inr ⟨fun o => g (hi.2 o),r⟩
theorem ErrIf.nilQ {e:V} {ok:Prop} [Decidable ok] (h:ErrIf ok e):eqV .iface true e .nili = some (decide ok):=by
 rcases h with ⟨g,rfl⟩ | ⟨g,⟨_,rfl⟩ | ⟨_,_,rfl⟩⟩
 ·simp [g,eqV]
 ·simp [g,eqV,errV]
 ·simp [g,eqV,atV]
theorem ErrG.err {ok:Prop} (g:Nat) (h:¬ ok):ErrG ok (errV g):=.inr ⟨h,g,rfl⟩
theorem ErrG.nil {ok:Prop} (h:ok):ErrG ok .nili:=.inl ⟨h,rfl⟩
theorem ErrIf.err {ok:Prop} (g:Nat) (h:¬ ok):ErrIf ok (errV g):=.inr ⟨h,.inl ⟨g,rfl⟩⟩
theorem ErrIf.at_ {ok:Prop} (k:Int) (g:Nat) (h:¬ ok):ErrIf ok (atV k g):=.inr ⟨h,.inr ⟨k,g,rfl⟩⟩
theorem ErrIf.nil {ok:Prop} (h:ok):ErrIf ok .nili:=.inl ⟨h,rfl⟩
theorem at_spec (n:Nat) (k:Int) (g:Nat):callV (cfg G) (sem (cfg G) (n + 1)) 226 [.int .i64 k,errV g] = M.ret (atV k g):=by
 refine callV_pure rfl rfl ?_
 rw [ferry_plan_at_eq]
 simp only [ferry_plan_at]
 have hc:(errV g).cells? = some [errV g]:=rfl
 (repeat' (first | (simp only [wp,extractV,w0,reduceIte,Nat.reduceAdd,Nat.reduceLT,Nat.reduceLeDiff,Nat.reduceEqDiff,buildV,fill,putRow,hc,iface_ptr]) | (with_reducible ((first | apply xC | apply xG | apply xQ) <;> intro hb <;> try simp only [hb]))))
 rfl
theorem outT_spec (n:Nat) (q:Tp):callV (cfg G) (sem (cfg G) (n + 1)) 146 [.agg (tpR q)] = M.ret (.bool (decide (outT q))):=by
 refine callV_pure0 rfl rfl rfl ?_
 rw [ferry_port_isOut_eq]
 simp only [ferry_port_isOut,tpR]
 (repeat' (first | (simp only [wp,extractV,w0,reduceIte,Nat.reduceAdd,Nat.reduceLT,Nat.reduceLeDiff,Nat.reduceEqDiff]) | (with_reducible ((first | apply xC | apply xG | apply xQ) <;> intro hb <;> try simp only [hb]))))
 all_goals ((try simp only [decide_eq_true_eq,decide_eq_false_iff_not,beq_iff_eq,beq_eq_false_iff_ne,ne_eq,bne_iff_ne,nbeq_e,Bool.true_eq_false,Bool.false_eq_true,iff_false,iff_true,Bool.not_eq_true',Bool.not_eq_false'] at *); refine boolI ?_; (try simp only [decide_eq_true_eq,decide_eq_false_iff_not,beq_iff_eq,beq_eq_false_iff_ne,ne_eq,bne_iff_ne,nbeq_e,Bool.true_eq_false,Bool.false_eq_true,iff_false,iff_true,Bool.not_eq_true',Bool.not_eq_false',true_iff,false_iff]); (try unfold outT); (try omega))
theorem inT_spec (n:Nat) (q:Tp):callV (cfg G) (sem (cfg G) (n + 1)) 142 [.agg (tpR q)] = M.ret (.bool (decide (q.kind = 1 ∨ q.kind = 3))):=by
 refine callV_pure0 rfl rfl rfl ?_
 rw [ferry_port_isIn_eq]
 simp only [ferry_port_isIn,tpR]
 (repeat' (first | (simp only [wp,extractV,w0,reduceIte,Nat.reduceAdd,Nat.reduceLT,Nat.reduceLeDiff,Nat.reduceEqDiff]) | (with_reducible ((first | apply xC | apply xG | apply xQ) <;> intro hb <;> try simp only [hb]))))
 all_goals ((try simp only [decide_eq_true_eq,decide_eq_false_iff_not,beq_iff_eq,beq_eq_false_iff_ne,ne_eq,bne_iff_ne,nbeq_e,Bool.true_eq_false,Bool.false_eq_true,iff_false,iff_true,Bool.not_eq_true',Bool.not_eq_false'] at *); refine boolI ?_; (try simp only [decide_eq_true_eq,decide_eq_false_iff_not,beq_iff_eq,beq_eq_false_iff_ne,ne_eq,bne_iff_ne,nbeq_e,Bool.true_eq_false,Bool.false_eq_true,iff_false,iff_true,Bool.not_eq_true',Bool.not_eq_false',true_iff,false_iff]); (try unfold outT); (try omega))
theorem queT_spec (n:Nat) (q:Tp):callV (cfg G) (sem (cfg G) (n + 1)) 143 [.agg (tpR q)] = M.ret (.bool (decide (queT q))):=by
 refine callV_pure0 rfl rfl rfl ?_
 rw [ferry_port_isQueue_eq]
 simp only [ferry_port_isQueue,tpR]
 (repeat' (first | (simp only [wp,extractV,w0,reduceIte,Nat.reduceAdd,Nat.reduceLT,Nat.reduceLeDiff,Nat.reduceEqDiff]) | (with_reducible ((first | apply xC | apply xG | apply xQ) <;> intro hb <;> try simp only [hb]))))
 all_goals ((try simp only [decide_eq_true_eq,decide_eq_false_iff_not,beq_iff_eq,beq_eq_false_iff_ne,ne_eq,bne_iff_ne,nbeq_e,Bool.true_eq_false,Bool.false_eq_true,iff_false,iff_true,Bool.not_eq_true',Bool.not_eq_false'] at *); refine boolI ?_; (try simp only [decide_eq_true_eq,decide_eq_false_iff_not,beq_iff_eq,beq_eq_false_iff_ne,ne_eq,bne_iff_ne,nbeq_e,Bool.true_eq_false,Bool.false_eq_true,iff_false,iff_true,Bool.not_eq_true',Bool.not_eq_false',true_iff,false_iff]); (try unfold queT); (try omega))
theorem tp_take (q:Tp):(tpR q).take 4 = tpR q:=rfl
theorem tp_len (q:Tp):(tpR q).length = 4:=rfl
set_option maxRecDepth 20000 in
theorem checkPlan_spec (hA:BErrs G) (n:Nat) (q:Tp):∃ e,callV (cfg G) (sem (cfg G) (n + 2)) 208 [.agg (tpR q)] = M.ret e ∧ ErrG (TpOk q) e:=by
 refine callV_pureE rfl rfl ?_
 rw [ferry_port_CheckPlan_eq]
 have t0:(tpR q)[0]? = some (i64 q.kind):=rfl
 have t1:(tpR q)[1]? = some (i64 q.size):=rfl
 have t2:(tpR q)[2]? = some (i64 q.depth):=rfl
 have t3:(tpR q)[3]? = some (i64 q.fresh):=rfl
 simp only [ferry_port_CheckPlan,ferry_port_CheckPlan_j2,ferry_port_CheckPlan_j1]
 (repeat' (first | (simp only [wp,extractV,w0,reduceIte,Nat.reduceAdd,Nat.reduceLT,Nat.reduceLeDiff,Nat.reduceEqDiff,queT_spec,outT_spec,inT_spec,tp_take,tp_len,t0,t1,t2,t3,glob_b hA,bs_ok]) | (with_reducible ((first | apply xC | apply xG | apply xQ) <;> intro hb <;> try simp only [hb]))))
 all_goals refine ⟨_,thawV_closedT rfl _,?_⟩
 all_goals simp only [beq_iff_eq,beq_eq_false_iff_ne,Bool.and_eq_true,Bool.or_eq_true,Bool.not_eq_true',decide_eq_true_eq,decide_eq_false_iff_not,Bool.or_eq_false_iff,Bool.and_eq_false_iff] at *
 all_goals first
  | (refine ErrG.nil ?_; unfold TpOk; simp only [outT,queT] at *; repeat' split; all_goals omega)
  | (refine ErrG.err _ ?_; unfold TpOk; simp only [outT,queT] at *; repeat' split; all_goals omega)
theorem arith_mul {a b:Int} (h:-9223372036854775808 ≤ a * b) (h':a * b ≤ 9223372036854775807):arithV .mul (.int .i64 a) (.int .i64 b) = some (.int .i64 (a * b)):=by
 have:IntKind.i64.wrap (a * b) = a * b:=Go.IntWalk.i64_in _ ⟨h,h'⟩
 simp [arithV,this]
theorem most_spec (hA:BErrs G) (n:Nat) {q:Tp} (hq:TpOk q):callV (cfg G) (sem (cfg G) (n + 3)) 246 [.agg (tpR q)] = M.ret (.tuple [i64 (mostT q),.nili]):=by
 refine callV_pure0 rfl rfl rfl ?_
 obtain ⟨e,he,hE⟩:=checkPlan_spec hA n q
 have hE:=hE.if_.nilQ
 rw [decide_eq_true hq] at hE
 rw [ferry_port_Most_eq]
 have t1:(tpR q)[1]? = some (i64 q.size):=rfl
 have t2:(tpR q)[2]? = some (i64 q.depth):=rfl
 have hd:1 ≤ q.depth ∧ q.depth ≤ 8:=⟨hq.2.2.1.1,by have:=hq.2.2.1.2; split at this <;> omega⟩
 have hz:=hq.2.1
 have hm:0 ≤ q.depth * (1 + q.size) ∧ q.depth * (1 + q.size) ≤ 8 * 33:=⟨Int.mul_nonneg (by omega) (by omega),Int.mul_le_mul hd.2 (by omega) (by omega) (by omega)⟩
 have a1:arithV .add (i64 1) (i64 q.size) = some (i64 (1 + q.size)):=arith_add (by omega) (by omega)
 have a2:arithV .mul (i64 q.depth) (i64 (1 + q.size)) = some (i64 (q.depth * (1 + q.size))):=arith_mul (by omega) (by omega)
 have a3:arithV .add (i64 2) (i64 (q.depth * (1 + q.size))) = some (i64 (2 + q.depth * (1 + q.size))):=arith_add (by omega) (by omega)
 simp only [ferry_port_Most]
 (repeat' (first | (simp only [wp,extractV,w0,reduceIte,Nat.reduceAdd,Nat.reduceLT,Nat.reduceLeDiff,Nat.reduceEqDiff,he,hE,outT_spec,tp_take,tp_len,t1,t2,a1,a2,a3]) | (with_reducible ((first | apply xC | apply xG | apply xQ) <;> intro hb <;> try simp only [hb]))))
 all_goals simp_all [mostT]
theorem lenS_str (s:ByteArray):lenS (.str s) = some (.int .i64 (s.size:Nat)):=rfl
def PagesOk (p:Pn):Prop:=(1 ≤ p.pages.length ∧ p.pages.length ≤ 32) ∧ ∀ q ∈ p.pages,GpOk q
instance (p:Pn):Decidable (PagesOk p):=inferInstanceAs (Decidable (_ ∧ _))
variable {l m:List V} {s:St} {p:Pn} {x y z a b c d e f g h:V} {pr:List (List V)}
set_option maxRecDepth 20000 in
theorem checkPages_spec (hA:BErrs G) (n:Nat) (hp:PnS l p a b c d):∃ e,callV (cfg G) (sem (cfg G) (n + 2)) 155 [.agg l] = M.ret e ∧ ErrIf (PagesOk p) e:=by
 refine callV_pureE rfl (by simp [hp.closedV]) ?_
 obtain ⟨rfl,hg,_⟩:=hp
 rw [ferry_plan_checkPages_eq]
 simp only [ferry_plan_checkPages]
 by_cases h1:p.pages.length < 1
 ·have e1:decide ((p.pages.length:Int) < 1) = true:=by rw [decide_eq_true_eq]; omega
  (repeat' (first | (simp only [wp,extractV,w0,reduceIte,Nat.reduceAdd,Nat.reduceLT,Nat.reduceLeDiff,Nat.reduceEqDiff,hg.len,List.length_map,e1,glob_b hA,bs_ok]) | (with_reducible ((first | apply xC | apply xG | apply xQ) <;> intro hb <;> try simp only [hb]))))
  exact ⟨_,thawV_closedT rfl _,.err _ fun g => by have:=g.1.1; omega⟩
 have e1:decide ((p.pages.length:Int) < 1) = false:=by simp; omega
 by_cases h2:32 < p.pages.length
 ·have e2:decide ((32:Int) < (p.pages.length:Int)) = true:=by simp; omega
  (repeat' (first | (simp only [wp,extractV,w0,reduceIte,Nat.reduceAdd,Nat.reduceLT,Nat.reduceLeDiff,Nat.reduceEqDiff,hg.len,List.length_map,e1,e2,glob_b hA,bs_ok]) | (with_reducible ((first | apply xC | apply xG | apply xQ) <;> intro hb <;> try simp only [hb]))))
  exact ⟨_,thawV_closedT rfl _,.err _ fun g => by have:=g.1.2; omega⟩
 have e2:decide ((32:Int) < (p.pages.length:Int)) = false:=by simp; omega
 (repeat' (first | (simp only [wp,extractV,w0,reduceIte,Nat.reduceAdd,Nat.reduceLT,Nat.reduceLeDiff,Nat.reduceEqDiff,hg.len,List.length_map,e1,e2]) | (with_reducible ((first | apply xC | apply xG | apply xQ) <;> intro hb <;> try simp only [hb]))))
 refine Run.loop (N:=p.pages.length) (fun i s H => s = [.nili,.int .i64 (i:Nat)] ∧ H.floor = 0 ∧ ∀ q ∈ p.pages.take i,GpOk q) ⟨rfl,rfl,by simp⟩ ?_
 rintro i s H hi ⟨rfl,hf,hall⟩
 by_cases hlt:i < p.pages.length
 ·have i2:=hg.idx (k:=.i64) (i:=i) (by simpa using hlt)
  simp only [List.getElem_map] at i2
  have nn:∀ {r:V} {k:Int} {gg:Nat},¬ GpOk p.pages[i] → r = atV k gg → ∃ r',thawV true H r = some r' ∧ ErrIf (PagesOk p) r':=fun h e => by
   subst e
   exact ⟨_,thawV_closedT rfl _,.at_ _ _ fun g => not_all hlt h g.2⟩
  have hy:=all_snoc (P:=GpOk) hlt
  have hbg:p.pages.length ≤ big:=by unfold big; omega
  generalize p.pages[i] = q at *
  have ad:=addN hlt hbg
  simp only [ferry_plan_checkPages_l1]
  (repeat' (first | (simp only [wp,extractV,w0,reduceIte,Nat.reduceAdd,Nat.reduceLT,Nat.reduceLeDiff,Nat.reduceEqDiff,ltT hlt,i2,ad,gpR,hf,at_spec,glob_b hA,bs_ok,lenS_str]) | (with_reducible ((first | apply xC | apply xG | apply xQ) <;> intro hb <;> try simp only [hb]))))
  all_goals simp only [beq_iff_eq,beq_eq_false_iff_ne,Bool.and_eq_true,Bool.or_eq_true,Bool.not_eq_true',decide_eq_true_eq,decide_eq_false_iff_not,Bool.or_eq_false_iff,Bool.and_eq_false_iff] at *
  all_goals first | exact nn (by unfold GpOk; omega) rfl | exact ⟨hlt,hy.2 ⟨hall,by unfold GpOk; omega⟩⟩
 ·simp only [ferry_plan_checkPages_l1]
  (repeat' (first | (simp only [wp,extractV,w0,reduceIte,Nat.reduceAdd,Nat.reduceLT,Nat.reduceLeDiff,Nat.reduceEqDiff,ltF hlt]) | (with_reducible ((first | apply xC | apply xG | apply xQ) <;> intro hb <;> try simp only [hb]))))
  rw [take_all (by omega)] at hall
  exact ⟨_,thawV_closedT rfl _,.nil ⟨⟨by omega,by omega⟩,hall⟩⟩
def ProcsOk (p:Pn):Prop:=(1 ≤ p.procs.length ∧ p.procs.length ≤ 8) ∧ ∀ q ∈ p.procs,CpOk p.pages.length q
instance (p:Pn):Decidable (ProcsOk p):=inferInstanceAs (Decidable (_ ∧ _))
set_option maxRecDepth 20000 in
theorem checkProcs_spec (hA:BErrs G) (n:Nat) (hp:PnS l p a b c d) (hpg:p.pages.length ≤ 32):∃ e,callV (cfg G) (sem (cfg G) (n + 2)) 156 [.agg l] = M.ret e ∧ ErrIf (ProcsOk p) e:=by
 refine callV_pureE rfl (by simp [hp.closedV]) ?_
 obtain ⟨rfl,hg,hc,_⟩:=hp
 rw [ferry_plan_checkProcs_eq]
 simp only [ferry_plan_checkProcs]
 by_cases h1:p.procs.length < 1
 ·have e1:decide ((p.procs.length:Int) < 1) = true:=by rw [decide_eq_true_eq]; omega
  (repeat' (first | (simp only [wp,extractV,w0,reduceIte,Nat.reduceAdd,Nat.reduceLT,Nat.reduceLeDiff,Nat.reduceEqDiff,hc.len,List.length_map,e1,glob_b hA,bs_ok]) | (with_reducible ((first | apply xC | apply xG | apply xQ) <;> intro hb <;> try simp only [hb]))))
  exact ⟨_,thawV_closedT rfl _,.err _ fun g => by have:=g.1.1; omega⟩
 have e1:decide ((p.procs.length:Int) < 1) = false:=by simp; omega
 by_cases h2:8 < p.procs.length
 ·have e2:decide ((8:Int) < (p.procs.length:Int)) = true:=by simp; omega
  (repeat' (first | (simp only [wp,extractV,w0,reduceIte,Nat.reduceAdd,Nat.reduceLT,Nat.reduceLeDiff,Nat.reduceEqDiff,hc.len,List.length_map,e1,e2,glob_b hA,bs_ok]) | (with_reducible ((first | apply xC | apply xG | apply xQ) <;> intro hb <;> try simp only [hb]))))
  exact ⟨_,thawV_closedT rfl _,.err _ fun g => by have:=g.1.2; omega⟩
 have e2:decide ((8:Int) < (p.procs.length:Int)) = false:=by simp; omega
 (repeat' (first | (simp only [wp,extractV,w0,reduceIte,Nat.reduceAdd,Nat.reduceLT,Nat.reduceLeDiff,Nat.reduceEqDiff,hc.len,List.length_map,e1,e2]) | (with_reducible ((first | apply xC | apply xG | apply xQ) <;> intro hb <;> try simp only [hb]))))
 refine Run.loop (N:=p.procs.length) (fun i s H => s = [.nili,.int .i64 (i:Nat)] ∧ H.floor = 0 ∧ 0 < H.next ∧ H.blk 0 = some ⟨7,[[i64 p.id,.bool p.mob,a,b,c,i64 p.ev,d]]⟩ ∧ ∀ q ∈ p.procs.take i,CpOk p.pages.length q) ⟨rfl,rfl,by simp [Heap.add_next],rfl,by simp⟩ ?_
 rintro i s H hi ⟨rfl,hf,hn,hb0,hall⟩
 by_cases hlt:i < p.procs.length
 ·have i2:=hc.idx (k:=.i64) (i:=i) (by simpa using hlt)
  simp only [List.getElem_map] at i2
  have nn:∀ {r:V} {k:Int} {gg:Nat},¬ CpOk p.pages.length p.procs[i] → r = atV k gg → ∃ r',thawV true H r = some r' ∧ ErrIf (ProcsOk p) r':=fun h e => by
   subst e
   exact ⟨_,thawV_closedT rfl _,.at_ _ _ fun g => not_all hlt h g.2⟩
  have hy:=all_snoc (P:=CpOk p.pages.length) hlt
  have hbg:p.procs.length ≤ big:=by unfold big; omega
  have ad:=addN hlt hbg
  have mu:arithV .mul (i64 64) (i64 (p.pages.length:Nat)) = some (i64 (64 * (p.pages.length:Nat))):=arith_mul (by omega) (by omega)
  have rm:arithV .rem (i64 p.procs[i].entry) (i64 4) = some (i64 (p.procs[i].entry.tmod 4)):=by simp [arithV]
  have n0:¬ (0 = H.next):=by omega
  generalize p.procs[i] = q at *
  simp only [ferry_plan_checkProcs_l1]
  (repeat' (first | (simp only [wp,extractV,w0,reduceIte,Nat.reduceAdd,Nat.reduceLT,Nat.reduceLeDiff,Nat.reduceEqDiff,ltT hlt,i2,ad,cpR,hf,at_spec,glob_b hA,bs_ok,mu,rm,hg.len,hb0,n0,List.length_map]) | (with_reducible ((first | apply xC | apply xG | apply xQ) <;> intro hb <;> try simp only [hb]))))
  all_goals simp only [beq_iff_eq,beq_eq_false_iff_ne,Bool.and_eq_true,Bool.or_eq_true,Bool.not_eq_true',decide_eq_true_eq,decide_eq_false_iff_not,Bool.or_eq_false_iff,Bool.and_eq_false_iff,Bool.not_eq_false',bne_iff_ne,Bool.not_eq_true,Bool.not_eq_false] at *
  all_goals first | exact nn (by unfold CpOk; omega) rfl | exact ⟨hlt,by simp [Heap.q_blk,Heap.q_next,Heap.q_floor,Heap.set_blk,Heap.set_next,Heap.set_floor,Heap.add_blk,Heap.add_next,Heap.add_floor,hn],hy.2 ⟨hall,by unfold CpOk; omega⟩⟩ | exact ⟨hlt,hy.2 ⟨hall,by unfold CpOk; omega⟩⟩
 ·simp only [ferry_plan_checkProcs_l1]
  (repeat' (first | (simp only [wp,extractV,w0,reduceIte,Nat.reduceAdd,Nat.reduceLT,Nat.reduceLeDiff,Nat.reduceEqDiff,ltF hlt]) | (with_reducible ((first | apply xC | apply xG | apply xQ) <;> intro hb <;> try simp only [hb]))))
  rw [take_all (by omega)] at hall
  exact ⟨_,thawV_closedT rfl _,.nil ⟨⟨by omega,by omega⟩,hall⟩⟩
theorem most_le {q:Tp} (hq:TpOk q):0 ≤ mostT q ∧ mostT q ≤ 266:=by
 have hd:1 ≤ q.depth ∧ q.depth ≤ 8:=⟨hq.2.2.1.1,by have:=hq.2.2.1.2; split at this <;> omega⟩
 have hz:=hq.2.1
 have hm:0 ≤ q.depth * (1 + q.size) ∧ q.depth * (1 + q.size) ≤ 8 * 33:=⟨Int.mul_nonneg (by omega) (by omega),Int.mul_le_mul hd.2 (by omega) (by omega) (by omega)⟩
 unfold mostT
 split <;> omega
theorem sum_snoc {l:List Tp} {i:Nat} (h:i < l.length) (f:Tp → Int):((l.take (i + 1)).map f).sum = ((l.take i).map f).sum + f l[i]:=by
 rw [take_snoc h,List.map_append,List.sum_append]
 simp
theorem sum_le {l : List Tp} {f : Tp → Int} {k : Int} (h : ∀ q ∈ l, 0 ≤ f q ∧ f q ≤ k) : 0 ≤ (l.map f).sum ∧ (l.map f).sum ≤ k * l.length := by
  induction l with
  | nil => simp
  | cons a l ih =>
    have:=ih fun q hq => h q (List.mem_cons_of_mem _ hq)
    have h0:=h a (List.mem_cons_self ..)
    simp only [List.map_cons,List.sum_cons,List.length_cons]
    rw [show k * ((l.length + 1:Nat):Int) = k * l.length + k by rw [Int.natCast_add,Int.mul_add]; simp]
    omega
set_option maxRecDepth 20000 in
theorem bound_spec (hA:BErrs G) (n:Nat) (hp:PnS l p a b c d) (hpg:p.pages.length ≤ 32) (hpr:p.procs.length ≤ 8) (hpt:p.ports.length ≤ 8) (hev:0 ≤ p.ev ∧ p.ev ≤ 8) (hse:p.sems.length ≤ 8) (hok:∀ q ∈ p.ports,TpOk q) :
  callV (cfg G) (sem (cfg G) (n + 4)) 227 [.agg l] = M.ret (i64 (boundP p)):=by
 refine callV_pure0 rfl (by simp [hp.closedV]) rfl ?_
 obtain ⟨rfl,hg,hc,ho,hs,_⟩:=hp
 rw [ferry_plan_bound_eq]
 simp only [ferry_plan_bound]
 have m1:arithV .mul (i64 76) (i64 (p.procs.length:Nat)) = some (i64 (76 * (p.procs.length:Nat))):=arith_mul (by omega) (by omega)
 have m2:arithV .add (i64 58) (i64 (76 * (p.procs.length:Nat))) = some (i64 (58 + 76 * (p.procs.length:Nat))):=arith_add (by omega) (by omega)
 have m3:arithV .mul (i64 68) (i64 (p.pages.length:Nat)) = some (i64 (68 * (p.pages.length:Nat))):=arith_mul (by omega) (by omega)
 have m4:arithV .add (i64 (58 + 76 * (p.procs.length:Nat))) (i64 (68 * (p.pages.length:Nat))) = some (i64 (58 + 76 * (p.procs.length:Nat) + 68 * (p.pages.length:Nat))):=arith_add (by omega) (by omega)
 have m5:arithV .add (i64 (58 + 76 * (p.procs.length:Nat) + 68 * (p.pages.length:Nat))) (i64 p.ev) = some (i64 (58 + 76 * (p.procs.length:Nat) + 68 * (p.pages.length:Nat) + p.ev)):=arith_add (by omega) (by omega)
 have m6:arithV .add (i64 (58 + 76 * (p.procs.length:Nat) + 68 * (p.pages.length:Nat) + p.ev)) (i64 (p.sems.length:Nat)) = some (i64 (58 + 76 * (p.procs.length:Nat) + 68 * (p.pages.length:Nat) + p.ev + (p.sems.length:Nat))):=arith_add (by omega) (by omega)
 (repeat' (first | (simp only [wp,extractV,w0,reduceIte,Nat.reduceAdd,Nat.reduceLT,Nat.reduceLeDiff,Nat.reduceEqDiff,hg.len,hc.len,hs.len,ho.len,List.length_map,m1,m2,m3,m4,m5,m6]) | (with_reducible ((first | apply xC | apply xG | apply xQ) <;> intro hb <;> try simp only [hb]))))
 refine Run.loop (N:=p.ports.length) (fun i s H => s = [i64 (58 + 76 * (p.procs.length:Nat) + 68 * (p.pages.length:Nat) + p.ev + (p.sems.length:Nat) + ((p.ports.take i).map fun q => 3 + mostT q).sum),.int .i64 (i:Nat)] ∧ H.floor = 0) ⟨by simp,rfl⟩ ?_
 rintro i s H hi ⟨rfl,hf⟩
 by_cases hlt:i < p.ports.length
 ·have i2:=ho.idx (k:=.i64) (i:=i) (by simpa using hlt)
  simp only [List.getElem_map] at i2
  have hbg:p.ports.length ≤ big:=by unfold big; omega
  have ad:=addN hlt hbg
  have hq:=hok _ (List.getElem_mem hlt)
  have hml:=most_le hq
  have hsl:=sum_le (l:=p.ports.take i) (f:=fun q => 3 + mostT q) (k:=269) fun q hq => by have:=most_le (hok q (List.mem_of_mem_take hq)); omega
  rw [List.length_take] at hsl
  have hss:=sum_snoc hlt fun q => 3 + mostT q
  generalize hS:((p.ports.take i).map fun q => 3 + mostT q).sum = S at *
  generalize p.ports[i] = q at *
  have a1:arithV .add (i64 3) (i64 (mostT q)) = some (i64 (3 + mostT q)):=arith_add (by omega) (by omega)
  have a2:arithV .add (i64 (58 + 76 * (p.procs.length:Nat) + 68 * (p.pages.length:Nat) + p.ev + (p.sems.length:Nat) + S)) (i64 (3 + mostT q)) = some (i64 (58 + 76 * (p.procs.length:Nat) + 68 * (p.pages.length:Nat) + p.ev + (p.sems.length:Nat) + S + (3 + mostT q))):=arith_add (by omega) (by omega)
  have ms:=most_spec hA n hq
  simp only [ferry_plan_bound_l1]
  (repeat' (first | (simp only [wp,extractV,w0,reduceIte,Nat.reduceAdd,Nat.reduceLT,Nat.reduceLeDiff,Nat.reduceEqDiff,ltT hlt,i2,ad,hf,tp_len,tp_take,ms,a1,a2]) | (with_reducible ((first | apply xC | apply xG | apply xQ) <;> intro hb <;> try simp only [hb]))))
  refine ⟨hlt,?_⟩
  rw [hss]
  exact congrArg (fun z => [i64 z,V.int .i64 ((i + 1:Nat):Int)]) (by omega)
 ·simp only [ferry_plan_bound_l1]
  (repeat' (first | (simp only [wp,extractV,w0,reduceIte,Nat.reduceAdd,Nat.reduceLT,Nat.reduceLeDiff,Nat.reduceEqDiff,ltF hlt]) | (with_reducible ((first | apply xC | apply xG | apply xQ) <;> intro hb <;> try simp only [hb]))))
  rw [take_all (by omega)]
  rfl
def RestOk (p:Pn):Prop:=(p.ports.length ≤ 8 ∧ ∀ q ∈ p.ports,TpOk q) ∧ (0 ≤ p.ev ∧ p.ev ≤ 8) ∧ (p.sems.length ≤ 8 ∧ ∀ n ∈ p.sems,CtOk n) ∧ boundP p ≤ 4096
instance (p:Pn):Decidable (RestOk p):=inferInstanceAs (Decidable (_ ∧ _ ∧ _ ∧ _))
set_option maxRecDepth 20000 in
theorem checkRest_spec (hA:BErrs G) (n:Nat) (hp:PnS l p a b c d) (hpg:p.pages.length ≤ 32) (hpr:p.procs.length ≤ 8):∃ e,callV (cfg G) (sem (cfg G) (n + 5)) 157 [.agg l] = M.ret e ∧ ErrIf (RestOk p) e:=by
 refine callV_pureE rfl (by simp [hp.closedV]) ?_
 have hbnd:=bound_spec hA n hp hpg hpr
 obtain ⟨rfl,hg,hc,ho,hs,_⟩:=hp
 rw [ferry_plan_checkRest_eq]
 simp only [ferry_plan_checkRest]
 by_cases h2:8 < p.ports.length
 ·have e2:decide ((8:Int) < (p.ports.length:Int)) = true:=by simp; omega
  (repeat' (first | (simp only [wp,extractV,w0,reduceIte,Nat.reduceAdd,Nat.reduceLT,Nat.reduceLeDiff,Nat.reduceEqDiff,ho.len,List.length_map,e2,glob_b hA,bs_ok]) | (with_reducible ((first | apply xC | apply xG | apply xQ) <;> intro hb <;> try simp only [hb]))))
  exact ⟨_,thawV_closedT rfl _,.err _ fun g => by have:=g.1.1; omega⟩
 have e2:decide ((8:Int) < (p.ports.length:Int)) = false:=by simp; omega
 (repeat' (first | (simp only [wp,extractV,w0,reduceIte,Nat.reduceAdd,Nat.reduceLT,Nat.reduceLeDiff,Nat.reduceEqDiff,ho.len,List.length_map,e2]) | (with_reducible ((first | apply xC | apply xG | apply xQ) <;> intro hb <;> try simp only [hb]))))
 refine Run.loop (N:=p.ports.length) (fun i s H => s = [.nili,.int .i64 (i:Nat)] ∧ H.floor = 0 ∧ 0 < H.next ∧ H.blk 0 = some ⟨7,[[i64 p.id,.bool p.mob,a,b,c,i64 p.ev,d]]⟩ ∧ ∀ q ∈ p.ports.take i,TpOk q) ⟨rfl,rfl,by simp [Heap.add_next],rfl,by simp⟩ ?_
 rintro i s H hi ⟨rfl,hf,hn,hb0,hall⟩
 by_cases hlt:i < p.ports.length
 ·have i2:=ho.idx (k:=.i64) (i:=i) (by simpa using hlt)
  simp only [List.getElem_map] at i2
  have nn:∀ {r:V} {k:Int} {gg:Nat},¬ TpOk p.ports[i] → r = atV k gg → ∃ r',thawV true H r = some r' ∧ ErrIf (RestOk p) r':=fun h e => by
   subst e
   exact ⟨_,thawV_closedT rfl _,.at_ _ _ fun g => not_all hlt h g.1.2⟩
  have hy:=all_snoc (P:=TpOk) hlt
  have hbg:p.ports.length ≤ big:=by unfold big; omega
  have ad:=addN hlt hbg
  have n0:¬ (0 = H.next):=by omega
  generalize p.ports[i] = q at *
  obtain ⟨e,he,hE⟩:=checkPlan_spec hA (n + 2) q
  rcases hE with ⟨hq,rfl⟩ | ⟨hq,g,rfl⟩
  ·simp only [ferry_plan_checkRest_l1]
   (repeat' (first | (simp only [wp,extractV,w0,reduceIte,Nat.reduceAdd,Nat.reduceLT,Nat.reduceLeDiff,Nat.reduceEqDiff,ltT hlt,i2,ad,tp_len,tp_take,hf,at_spec,he,n0]) | (with_reducible ((first | apply xC | apply xG | apply xQ) <;> intro hb <;> try simp only [hb]))))
   exact ⟨hlt,hb0,hy.2 ⟨hall,hq⟩⟩
  ·simp only [ferry_plan_checkRest_l1]
   (repeat' (first | (simp only [wp,extractV,w0,reduceIte,Nat.reduceAdd,Nat.reduceLT,Nat.reduceLeDiff,Nat.reduceEqDiff,ltT hlt,i2,ad,tp_len,tp_take,hf,at_spec,he,n0,eq_err]) | (with_reducible ((first | apply xC | apply xG | apply xQ) <;> intro hb <;> try simp only [hb]))))
   exact nn hq rfl
 simp only [ferry_plan_checkRest_l1]
 rw [take_all (by omega)] at hall
 by_cases h5:p.ev < 0
 ·(repeat' (first | (simp only [wp,extractV,w0,reduceIte,Nat.reduceAdd,Nat.reduceLT,Nat.reduceLeDiff,Nat.reduceEqDiff,ltF hlt,hb0,decide_eq_true h5,glob_b hA,bs_ok]) | (with_reducible ((first | apply xC | apply xG | apply xQ) <;> intro hb <;> try simp only [hb]))))
  exact ⟨_,thawV_closedT rfl _,.err _ fun g => by have:=g.2.1.1; omega⟩
 by_cases h6:8 < p.ev
 ·(repeat' (first | (simp only [wp,extractV,w0,reduceIte,Nat.reduceAdd,Nat.reduceLT,Nat.reduceLeDiff,Nat.reduceEqDiff,ltF hlt,hb0,decide_eq_false h5,decide_eq_true h6,glob_b hA,bs_ok]) | (with_reducible ((first | apply xC | apply xG | apply xQ) <;> intro hb <;> try simp only [hb]))))
  exact ⟨_,thawV_closedT rfl _,.err _ fun g => by have:=g.2.1.2; omega⟩
 by_cases h7:8 < p.sems.length
 ·have e7:decide ((8:Int) < (p.sems.length:Int)) = true:=by simp; omega
  (repeat' (first | (simp only [wp,extractV,w0,reduceIte,Nat.reduceAdd,Nat.reduceLT,Nat.reduceLeDiff,Nat.reduceEqDiff,ltF hlt,hb0,decide_eq_false h5,decide_eq_false h6,hs.len,List.length_map,e7,glob_b hA,bs_ok]) | (with_reducible ((first | apply xC | apply xG | apply xQ) <;> intro hb <;> try simp only [hb]))))
  exact ⟨_,thawV_closedT rfl _,.err _ fun g => by have:=g.2.2.1.1; omega⟩
 have e7:decide ((8:Int) < (p.sems.length:Int)) = false:=by simp; omega
 (repeat' (first | (simp only [wp,extractV,w0,reduceIte,Nat.reduceAdd,Nat.reduceLT,Nat.reduceLeDiff,Nat.reduceEqDiff,ltF hlt,hb0,decide_eq_false h5,decide_eq_false h6,hs.len,List.length_map,e7,glob_b hA,bs_ok]) | (with_reducible ((first | apply xC | apply xG | apply xQ) <;> intro hb <;> try simp only [hb]))))
 refine Run.loop (N:=p.sems.length) (fun i s K => s = [.nili,.int .i64 (i:Nat)] ∧ K = H ∧ ∀ q ∈ p.sems.take i,CtOk q) ⟨rfl,rfl,by simp⟩ ?_
 rintro i s K hi ⟨rfl,rfl,hall2⟩
 by_cases hlt:i < p.sems.length
 ·have i2:=hs.idx (k:=.i64) (i:=i) (by simpa using hlt)
  simp only [List.getElem_map] at i2
  have nn:∀ {r:V} {k:Int} {gg:Nat},¬ CtOk p.sems[i] → r = atV k gg → ∃ r',thawV true K r = some r' ∧ ErrIf (RestOk p) r':=fun h e => by
   subst e
   exact ⟨_,thawV_closedT rfl _,.at_ _ _ fun g => not_all hlt h g.2.2.1.2⟩
  have hy:=all_snoc (P:=CtOk) hlt
  have hbg:p.sems.length ≤ big:=by unfold big; omega
  have ad:=addN hlt hbg
  generalize p.sems[i] = q at *
  simp only [ferry_plan_checkRest_l2]
  (repeat' (first | (simp only [wp,extractV,w0,reduceIte,Nat.reduceAdd,Nat.reduceLT,Nat.reduceLeDiff,Nat.reduceEqDiff,ltT hlt,i2,ad,intRow,at_spec,glob_b hA,bs_ok]) | (with_reducible ((first | apply xC | apply xG | apply xQ) <;> intro hb <;> try simp only [hb]))))
  all_goals simp only [beq_iff_eq,beq_eq_false_iff_ne,Bool.and_eq_true,Bool.or_eq_true,Bool.not_eq_true',decide_eq_true_eq,decide_eq_false_iff_not,Bool.or_eq_false_iff,Bool.and_eq_false_iff] at *
  all_goals first | exact nn (by unfold CtOk; omega) rfl | exact ⟨hlt,hy.2 ⟨hall2,by unfold CtOk; omega⟩⟩
 simp only [ferry_plan_checkRest_l2]
 have bd:=hbnd (by omega) (by omega) (by omega) hall
 (repeat' (first | (simp only [wp,extractV,w0,reduceIte,Nat.reduceAdd,Nat.reduceLT,Nat.reduceLeDiff,Nat.reduceEqDiff,ltF hlt,hb0,bd,glob_b hA,bs_ok]) | (with_reducible ((first | apply xC | apply xG | apply xQ) <;> intro hb <;> try simp only [hb]))))
 all_goals rw [take_all (by omega)] at hall2
 ·exact ⟨_,thawV_closedT rfl _,.err _ fun g => by have:=g.2.2.2; simp at *; omega⟩
 ·exact ⟨_,thawV_closedT rfl _,.nil ⟨⟨by omega,hall⟩,⟨by omega,by omega⟩,⟨by omega,hall2⟩,by simp at *; omega⟩⟩
end Sy
end Go.Fv.Tr
