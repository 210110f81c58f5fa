/-
  valid: the small questions about a number and a process. By an AI agent; no person has read it.
-/
import Derived.Test.YtekncgjkocgioaaGreatDoorFvP12
import Derived.Test.YtekncgjkocgioaaGreatDoorFvP22
set_option linter.unusedVariables false
set_option linter.unusedSimpArgs false
set_option linter.unusedSectionVars false
/-! valid: the small questions about a number and a process. -/
namespace Go.Fv.Tr
open Go Go.Fv Go.Fv.Pl Go.Proofs
variable {G:GV}
theorem between_spec (n:Nat) (a lo hi:Int):callV (cfg G) (sem (cfg G) (n + 1)) 158 [.int .i64 a,.int .i64 lo,.int .i64 hi] = M.ret (.bool (decide (lo ≤ a ∧ a ≤ hi))):=by
 refine callV_pure0 rfl rfl rfl ?_
 rw [ferry_valid_between_eq]
 simp only [ferry_valid_between]
 (repeat' (first | (simp only [wp,extractV,w0,reduceIte,Nat.reduceAdd,Nat.reduceLT,Nat.reduceLeDiff,Nat.reduceEqDiff]) | (with_reducible ((first | apply xC | apply xG | apply xQ) <;> intro hb <;> try simp only [hb]))))
 all_goals (try simp_all) <;> (try omega)
theorem within_spec (n:Nat) (a many:Int):callV (cfg G) (sem (cfg G) (n + 1)) 175 [.int .i64 a,.int .i64 many] = M.ret (.bool (decide (0 ≤ a ∧ a < many))):=by
 refine callV_pure0 rfl rfl rfl ?_
 rw [ferry_valid_within_eq]
 simp only [ferry_valid_within]
 (repeat' (first | (simp only [wp,extractV,w0,reduceIte,Nat.reduceAdd,Nat.reduceLT,Nat.reduceLeDiff,Nat.reduceEqDiff]) | (with_reducible ((first | apply xC | apply xG | apply xQ) <;> intro hb <;> try simp only [hb]))))
 all_goals (try simp_all) <;> (try omega)
def NumOk (p:Pr):Prop:=reg0 p = 0 ∧ (0 ≤ p.state ∧ p.state ≤ 3) ∧ (0 ≤ p.prio ∧ p.prio ≤ 255) ∧ (0 ≤ p.wait ∧ p.wait ≤ 4)
instance (p:Pr):Decidable (NumOk p):=by unfold NumOk; infer_instance
theorem numbers_spec (n:Nat) {p:Pr} (h:Wp p):callV (cfg G) (sem (cfg G) (n + 2)) 160 [.agg (prRow p)] = M.ret (.bool (decide (NumOk p))):=by
 refine callV_pure0 rfl ?_ rfl ?_
 ·simp [V.closedV,prRow,V.closed,V.flat]
 rw [ferry_valid_numbers_eq]
 simp only [ferry_valid_numbers]
 (repeat' (first | (simp only [wp,extractV,w0,reduceIte,Nat.reduceAdd,Nat.reduceLT,Nat.reduceLeDiff,Nat.reduceEqDiff,aidx0,pr_reg0 h,pr_state h,pr_prio h,pr_wait h,pr_obj h,pr_len h,pr_take h,between_spec]) | (with_reducible ((first | apply xC | apply xG | apply xQ) <;> intro hb <;> try simp only [hb]))))
 all_goals (try simp_all [NumOk]) <;> (try omega)
end Go.Fv.Tr
namespace Go.Fv.Tr
open Go Go.Fv Go.Fv.Pl Go.Proofs
variable {G:GV}
end Go.Fv.Tr
namespace Go.Fv.Tr
open Go Go.Fv Go.Proofs
set_option maxRecDepth 20000
noncomputable def slices_Clone_ferry_api_Proc_ferry_api_Proc (G:GV) (call:CV) (x0:V):M R :=
 (M.ret V.nils).bind fun aA =>
 (M.ret x0).bind fun aB =>
 (M.lift ((eqV .slice true aB V.nils).bind fun b => some (.bool b))).bind fun aC =>
 (condV aC
 ((M.ret V.nils).bind fun aD =>
 M.ret (Ex.ret,[aD]))
 ((sliceV 21 0 [(V.int .u32 0),(V.int .u32 0),(V.int .u32 0),(V.int .u32 0),(V.int .u32 0),(V.int .u32 0),(V.int .u32 0),(V.int .u32 0),(V.int .u32 0),(V.int .u32 0),(V.int .u32 0),(V.int .u32 0),(V.int .u32 0),(V.int .u32 0),(V.int .u32 0),(V.int .u32 0),(V.int .u32 0),(V.int .i64 0),(V.int .i64 0),(V.int .i64 0),(V.int .i64 0)] []).bind fun aE =>
 (M.ret x0).bind fun aF =>
 (appV 21 104 aE aF).bind fun aG =>
 (M.ret aG).bind fun aH =>
 M.ret (Ex.ret,[aH])))
theorem slices_Clone_ferry_api_Proc_ferry_api_Proc_eq (G:GV) (n:Nat) (x0:V):sem (cfg G) (n + 1) 54 [x0] = outV (slices_Clone_ferry_api_Proc_ferry_api_Proc G (sem (cfg G) n) x0) :=
 (fnV_at (C:=cfg G) (n:=n) (f:=54) (fn:=Tryz.f54) (c:=Tryz.f54.body.getD .skip) (by kernel_rfl) (by kernel_rfl) (by kernel_rfl) [x0]).trans (by kernel_rfl)
noncomputable def slices_Clone_int_int (G:GV) (call:CV) (x0:V):M R :=
 (M.ret V.nils).bind fun aA =>
 (M.ret x0).bind fun aB =>
 (M.lift ((eqV .slice true aB V.nils).bind fun b => some (.bool b))).bind fun aC =>
 (condV aC
 ((M.ret V.nils).bind fun aD =>
 M.ret (Ex.ret,[aD]))
 ((sliceV 1 0 [(V.int .i64 0)] []).bind fun aE =>
 (M.ret x0).bind fun aF =>
 (appV 1 8 aE aF).bind fun aG =>
 (M.ret aG).bind fun aH =>
 M.ret (Ex.ret,[aH])))
theorem slices_Clone_int_int_eq (G:GV) (n:Nat) (x0:V):sem (cfg G) (n + 1) 55 [x0] = outV (slices_Clone_int_int G (sem (cfg G) n) x0) :=
 (fnV_at (C:=cfg G) (n:=n) (f:=55) (fn:=Tryz.f55) (c:=Tryz.f55.body.getD .skip) (by kernel_rfl) (by kernel_rfl) (by kernel_rfl) [x0]).trans (by kernel_rfl)
noncomputable def slices_Clone_ferry_api_Timer_ferry_api_Timer (G:GV) (call:CV) (x0:V):M R :=
 (M.ret V.nils).bind fun aA =>
 (M.ret x0).bind fun aB =>
 (M.lift ((eqV .slice true aB V.nils).bind fun b => some (.bool b))).bind fun aC =>
 (condV aC
 ((M.ret V.nils).bind fun aD =>
 M.ret (Ex.ret,[aD]))
 ((sliceV 2 0 [(V.int .i64 0),(V.int .i64 0)] []).bind fun aE =>
 (M.ret x0).bind fun aF =>
 (appV 2 16 aE aF).bind fun aG =>
 (M.ret aG).bind fun aH =>
 M.ret (Ex.ret,[aH])))
theorem slices_Clone_ferry_api_Timer_ferry_api_Timer_eq (G:GV) (n:Nat) (x0:V):sem (cfg G) (n + 1) 56 [x0] = outV (slices_Clone_ferry_api_Timer_ferry_api_Timer G (sem (cfg G) n) x0) :=
 (fnV_at (C:=cfg G) (n:=n) (f:=56) (fn:=Tryz.f56) (c:=Tryz.f56.body.getD .skip) (by kernel_rfl) (by kernel_rfl) (by kernel_rfl) [x0]).trans (by kernel_rfl)
noncomputable def slices_IndexFunc_int_int_l1 (G:GV) (call:CV) (aA:V) (x1:V) (x0:V) (aB:List V):M R :=
 (M.lift (arithV .lss (aB.getD 1 V.undef) aA)).bind fun aC =>
 (condV aC
 ((M.ret (aB.getD 1 V.undef)).bind fun aD =>
 (M.ret aD).bind fun aE =>
 (M.ret x1).bind fun aF =>
 (M.ret x0).bind fun aG =>
 (M.ret aE).bind fun aH =>
 (M.lift (idxV 1 aG aH)).bind fun aI =>
 (load1 aI).bind fun aJ =>
 (callFn (cfg G) call aF [aJ]).bind fun aK =>
 (condV aK
 ((M.ret aE).bind fun aL =>
 (M.ret aL).bind fun aM =>
 M.ret (Ex.ret,[aM,(aB.getD 1 V.undef)]))
 ((M.lift (arithV .add (aB.getD 1 V.undef) (V.int .i64 1))).bind fun aN =>
 (M.ret aN).bind fun aO =>
 M.ret (Ex.normal,[(aB.getD 0 V.undef),aO]))))
 (M.ret ((Ex.exit 0),[(aB.getD 0 V.undef),(aB.getD 1 V.undef)])))
noncomputable def slices_IndexFunc_int_int (G:GV) (call:CV) (x0:V) (x1:V):M R :=
 (M.ret (V.int .i64 0)).bind fun aA =>
 (M.ret x0).bind fun aB =>
 (M.lift (lenV aB)).bind fun aC =>
 (M.ret (V.int .i64 0)).bind fun aD =>
 (loopV (slices_IndexFunc_int_int_l1 G call aC x1 x0) [aA,aD]).bind fun aE => match aE.1 with
 | .normal => M.fail
 | .exit k0_20 =>
 (if k0_20 = 0 then
 (M.ret (V.int .i64 (-1))).bind fun aF =>
 M.ret (Ex.ret,[aF])
 else M.fail)
 | .ret =>
 M.ret (Ex.ret,[(aE.2.getD 0 V.undef)])
theorem slices_IndexFunc_int_int_eq (G:GV) (n:Nat) (x0:V) (x1:V):sem (cfg G) (n + 1) 228 [x0,x1] = outV (slices_IndexFunc_int_int G (sem (cfg G) n) x0 x1) :=
 (fnV_at (C:=cfg G) (n:=n) (f:=228) (fn:=Tryz.f228) (c:=Tryz.f228.body.getD .skip) (by kernel_rfl) (by kernel_rfl) (by kernel_rfl) [x0,x1]).trans (by kernel_rfl)
noncomputable def slices_IndexFunc_ferry_api_Timer_ferry_api_Timer_l1 (G:GV) (call:CV) (aA:V) (x1:V) (x0:V) (aB:List V):M R :=
 (M.lift (arithV .lss (aB.getD 1 V.undef) aA)).bind fun aC =>
 (condV aC
 ((M.ret (aB.getD 1 V.undef)).bind fun aD =>
 (M.ret aD).bind fun aE =>
 (M.ret x1).bind fun aF =>
 (M.ret x0).bind fun aG =>
 (M.ret aE).bind fun aH =>
 (M.lift (idxV 2 aG aH)).bind fun aI =>
 (loadN 2 aI).bind fun aJ =>
 (callFn (cfg G) call aF [aJ]).bind fun aK =>
 (condV aK
 ((M.ret aE).bind fun aL =>
 (M.ret aL).bind fun aM =>
 M.ret (Ex.ret,[aM,(aB.getD 1 V.undef)]))
 ((M.lift (arithV .add (aB.getD 1 V.undef) (V.int .i64 1))).bind fun aN =>
 (M.ret aN).bind fun aO =>
 M.ret (Ex.normal,[(aB.getD 0 V.undef),aO]))))
 (M.ret ((Ex.exit 0),[(aB.getD 0 V.undef),(aB.getD 1 V.undef)])))
noncomputable def slices_IndexFunc_ferry_api_Timer_ferry_api_Timer (G:GV) (call:CV) (x0:V) (x1:V):M R :=
 (M.ret (V.int .i64 0)).bind fun aA =>
 (M.ret x0).bind fun aB =>
 (M.lift (lenV aB)).bind fun aC =>
 (M.ret (V.int .i64 0)).bind fun aD =>
 (loopV (slices_IndexFunc_ferry_api_Timer_ferry_api_Timer_l1 G call aC x1 x0) [aA,aD]).bind fun aE => match aE.1 with
 | .normal => M.fail
 | .exit k0_20 =>
 (if k0_20 = 0 then
 (M.ret (V.int .i64 (-1))).bind fun aF =>
 M.ret (Ex.ret,[aF])
 else M.fail)
 | .ret =>
 M.ret (Ex.ret,[(aE.2.getD 0 V.undef)])
theorem slices_IndexFunc_ferry_api_Timer_ferry_api_Timer_eq (G:GV) (n:Nat) (x0:V) (x1:V):sem (cfg G) (n + 1) 241 [x0,x1] = outV (slices_IndexFunc_ferry_api_Timer_ferry_api_Timer G (sem (cfg G) n) x0 x1) :=
 (fnV_at (C:=cfg G) (n:=n) (f:=241) (fn:=Tryz.f241) (c:=Tryz.f241.body.getD .skip) (by kernel_rfl) (by kernel_rfl) (by kernel_rfl) [x0,x1]).trans (by kernel_rfl)
noncomputable def slices_DeleteFunc_ferry_api_Timer_ferry_api_Timer_j1 (G:GV) (call:CV) (aA:List V) (aB:V):M R :=
 (M.ret (aA.getD 1 V.undef)).bind fun aC =>
 (M.lift (arithV .add aC (V.int .i64 1))).bind fun aD =>
 (M.ret aD).bind fun aE =>
 M.ret (Ex.normal,[aB,aE])
noncomputable def slices_DeleteFunc_ferry_api_Timer_ferry_api_Timer_l1 (G:GV) (call:CV) (x0:V) (x1:V) (aA:List V):M R :=
 (M.ret (aA.getD 1 V.undef)).bind fun aB =>
 (M.ret x0).bind fun aC =>
 (M.lift (lenV aC)).bind fun aD =>
 (M.lift (arithV .lss aB aD)).bind fun aE =>
 (condV aE
 ((M.ret x0).bind fun aF =>
 (M.ret (aA.getD 1 V.undef)).bind fun aG =>
 (M.lift (idxV 2 aF aG)).bind fun aH =>
 (loadN 2 aH).bind fun aI =>
 (newV (.agg [(V.int .i64 0),(V.int .i64 0)])).bind fun aJ =>
 (storeN 2 aJ aI).bind fun _ =>
 (M.ret x1).bind fun aK =>
 (loadN 2 aJ).bind fun aL =>
 (callFn (cfg G) call aK [aL]).bind fun aM =>
 (M.lift (unV .not aM)).bind fun aN =>
 (condV aN
 ((M.ret x0).bind fun aO =>
 (M.ret (aA.getD 0 V.undef)).bind fun aP =>
 (loadN 2 aJ).bind fun aQ =>
 (M.lift (idxV 2 aO aP)).bind fun aR =>
 (storeN 2 aR aQ).bind fun _ =>
 (M.ret (aA.getD 0 V.undef)).bind fun aS =>
 (M.lift (arithV .add aS (V.int .i64 1))).bind fun aT =>
 (M.ret aT).bind fun aU =>
 slices_DeleteFunc_ferry_api_Timer_ferry_api_Timer_j1 G call aA aU)
 (slices_DeleteFunc_ferry_api_Timer_ferry_api_Timer_j1 G call aA (aA.getD 0 V.undef))))
 (M.ret ((Ex.exit 0),[(aA.getD 0 V.undef),(aA.getD 1 V.undef)])))
noncomputable def slices_DeleteFunc_ferry_api_Timer_ferry_api_Timer (G:GV) (call:CV) (x0:V) (x1:V):M R :=
 (M.ret V.nils).bind fun aA =>
 (M.ret x0).bind fun aB =>
 (M.ret x1).bind fun aC =>
 (callV (cfg G) call 241 [aB,aC]).bind fun aD =>
 (M.ret aD).bind fun aE =>
 (M.ret aE).bind fun aF =>
 (M.lift ((eqV (.sc .int) true aF (V.int .i64 (-1))).bind fun b => some (.bool b))).bind fun aG =>
 (condV aG
 ((M.ret x0).bind fun aH =>
 (M.ret aH).bind fun aI =>
 M.ret (Ex.ret,[aI]))
 ((M.ret aE).bind fun aJ =>
 (M.lift (arithV .add aJ (V.int .i64 1))).bind fun aK =>
 (M.ret aK).bind fun aL =>
 (loopV (slices_DeleteFunc_ferry_api_Timer_ferry_api_Timer_l1 G call x0 x1) [aE,aL]).bind fun aM => match aM.1 with
 | .normal => M.fail
 | .exit k0_45 =>
 (if k0_45 = 0 then
 (M.ret x0).bind fun aN =>
 (M.ret (aM.2.getD 0 V.undef)).bind fun aO =>
 (M.lift (slV 2 aN (some aO) none none)).bind fun aP =>
 (clearV 2 [(V.int .i64 0),(V.int .i64 0)] aP).bind fun _ =>
 (M.ret x0).bind fun aQ =>
 (M.ret (aM.2.getD 0 V.undef)).bind fun aR =>
 (M.lift (slV 2 aQ none (some aR) none)).bind fun aS =>
 (M.ret aS).bind fun aT =>
 M.ret (Ex.ret,[aT])
 else M.fail)
 | .ret =>
 M.ret (Ex.ret,[aA])))
theorem slices_DeleteFunc_ferry_api_Timer_ferry_api_Timer_eq (G:GV) (n:Nat) (x0:V) (x1:V):sem (cfg G) (n + 1) 206 [x0,x1] = outV (slices_DeleteFunc_ferry_api_Timer_ferry_api_Timer G (sem (cfg G) n) x0 x1) :=
 (fnV_at (C:=cfg G) (n:=n) (f:=206) (fn:=Tryz.f206) (c:=Tryz.f206.body.getD .skip) (by kernel_rfl) (by kernel_rfl) (by kernel_rfl) [x0,x1]).trans (by kernel_rfl)
noncomputable def ferry_ready_Table_wake_1 (G:GV) (call:CV) (x0:V) (x1:V):M R :=
 (newV x0).bind fun aA =>
 (M.ret (V.bool false)).bind fun aB =>
 (M.lift (padd 0 aA)).bind fun aC =>
 (load1 aC).bind fun aD =>
 (load1 x1).bind fun aE =>
 (M.lift ((eqV (.sc .int) false aD aE).bind fun b => some (.bool b))).bind fun aF =>
 (M.ret aF).bind fun aG =>
 M.ret (Ex.ret,[aG])
theorem ferry_ready_Table_wake_1_eq (G:GV) (n:Nat) (x0:V) (x1:V):sem (cfg G) (n + 1) 207 [x0,x1] = outV (ferry_ready_Table_wake_1 G (sem (cfg G) n) x0 x1) :=
 (fnV_at (C:=cfg G) (n:=n) (f:=207) (fn:=Tryz.f207) (c:=Tryz.f207.body.getD .skip) (by kernel_rfl) (by kernel_rfl) (by kernel_rfl) [x0,x1]).trans (by kernel_rfl)
end Go.Fv.Tr
namespace Go.Fv.Pl
def wakeP (r1:Int) (p:Pr):Pr:={ p with regs:=p.regs.set 1 r1,state:=1,wait:=0,obj:=0 }
def setP (ps:List Pr) (n:Int) (f:Pr → Pr):List Pr:=ps.modify n.toNat f
def Tab.wake (t:Tab) (n:Int) (r1:Int):Tab:={ ps:=setP t.ps n (wakeP r1),q:=t.q ++ [n],ts:=t.ts.filter (·.proc ≠ n) }
theorem at?_set {ps:List Pr} {n m:Int} {f:Pr → Pr} (hn:0 ≤ n):at? (setP ps n f) m = if m = n then (at? ps m).map f else at? ps m:=by
 unfold at? setP
 by_cases hm:0 ≤ m
 ·simp only [hm,if_true,List.getElem?_modify]
  by_cases e:m = n
  ·subst e; simp
  ·have:n.toNat ≠ m.toNat:=by omega
   rw [if_neg e]; simp [this]
 ·simp only [hm,if_false]
  by_cases e:m = n
  ·subst e; exact absurd hn hm
  ·rw [if_neg e]
theorem setP_len (ps:List Pr) (n:Int) (f:Pr → Pr):(setP ps n f).length = ps.length:=by simp [setP]
theorem TsOk.filter {n:Int} {l:List Tm} (h:TsOk n l) (f:Tm → Bool):TsOk n (l.filter f):=by
 rw [TsOk_iff] at h ⊢
 exact ⟨fun t ht => h.1 t (List.mem_filter.1 ht).1,List.Nodup.sublist (List.filter_sublist.map _) h.2.1,List.Pairwise.sublist List.filter_sublist h.2.2⟩
theorem timed_filter {l:List Tm} {n m:Int}:timed (l.filter (·.proc ≠ n)) m ↔ timed l m ∧ m ≠ n:=by
 unfold timed
 simp only [List.mem_map,List.mem_filter,decide_eq_true_eq]
 constructor
 ·rintro ⟨a,⟨h1,h2⟩,rfl⟩; exact ⟨⟨a,h1,rfl⟩,h2⟩
 ·rintro ⟨⟨a,h1,rfl⟩,h2⟩; exact ⟨a,⟨h1,h2⟩,rfl⟩
theorem TabOk.at {t:Tab} (h:TabOk t) {n:Int} {p:Pr} (hp:at? t.ps n = some p):RowOk t.ts n p:=by
 obtain ⟨h0,h1⟩:=at?_some.1 hp
 have:=h.ps n.toNat p h1
 rwa [show ((n.toNat:Nat):Int) = n by omega] at this
theorem TabOk_of {t:Tab} (few:t.ps.length ≤ 8) (ts:TsOk t.ps.length t.ts) (ps:∀ n p,at? t.ps n = some p → RowOk t.ts n p) (q:QOk t.ps t.q):TabOk t :=
 ⟨few,ts,fun i p hp => ps i p (by rw [at?_nat]; exact hp),q⟩
theorem wakeP_ok {r1:Int} {p:Pr} (h:PrOk p):PrOk (wakeP r1 p):=by
 obtain ⟨g1,g2,g3,g4,g5,g6,g7⟩:=h
 refine ⟨?_,by simp [wakeP],g3,by simp [wakeP],by simp [wakeP],by simp [wakeP],.inl rfl⟩
 simp only [wakeP,List.getElem?_set]
 simpa using g1
theorem TabOk.wake {t:Tab} (h:TabOk t) {n:Int} {p:Pr} (hp:at? t.ps n = some p) (hs:p.state = 2) (r1:Int):TabOk (t.wake n r1):=by
 have h0:=(at?_lt hp).1
 have hnq:n ∉ t.q:=fun hm => by
  have:=h.q.1 n hm
  unfold isReady at this
  rw [hp] at this
  simp [hs] at this
 refine TabOk_of (by rw [Tab.wake,setP_len]; exact h.few) (by rw [Tab.wake,setP_len]; exact h.ts.filter _) (fun m q hq => ?_) ⟨fun m hm => ?_,?_,fun i hi hr => ?_⟩
 ·simp only [Tab.wake] at hq ⊢
  rw [at?_set h0] at hq
  by_cases e:m = n
  ·subst e
   rw [if_pos rfl,hp] at hq
   cases hq
   exact ⟨wakeP_ok (h.at hp).1,fun ht => absurd rfl (timed_filter.1 ht).2,fun _ => by simp [wakeP]⟩
  ·rw [if_neg e] at hq
   have:=h.at hq
   refine ⟨this.1,fun ht => this.2.1 (timed_filter.1 ht).1,fun ht => this.2.2 fun g => ht (timed_filter.2 ⟨g,e⟩)⟩
 ·simp only [Tab.wake] at hm ⊢
  unfold isReady
  rw [at?_set h0]
  rcases List.mem_append.1 hm with g | g
  ·rw [if_neg (by rintro rfl; exact hnq g)]
   exact h.q.1 m g
  ·rw [List.mem_singleton] at g
   subst g
   rw [if_pos rfl,hp]
   rfl
 ·simp only [Tab.wake]
  rw [List.nodup_append]
  refine ⟨h.q.2.1,by simp,fun a ha b hb => ?_⟩
  rw [List.mem_singleton] at hb
  subst hb
  rintro rfl
  exact hnq ha
 ·simp only [Tab.wake] at hi hr ⊢
  rw [setP_len] at hi
  by_cases e:((i:Nat):Int) = n
  ·exact List.mem_append.2 (.inr (by simp [e]))
  ·refine List.mem_append.2 (.inl (h.q.2.2 i hi ?_))
   unfold isReady at hr ⊢
   rwa [at?_set h0,if_neg e] at hr
def Tab.wakes (t:Tab) (r:Pr → Int):List Int → Tab
 | [] => t
 | n :: l => (t.wake n (((at? t.ps n).map r).getD 0)).wakes r l
theorem wakes_at {r : Pr → Int} : ∀ {l : List Int} {t : Tab} {m : Int}, (∀ n ∈ l, 0 ≤ n) → m ∉ l → at? (t.wakes r l).ps m = at? t.ps m
  | [],t,m,_,_ => rfl
  | n :: l, t, m, h0, h => by
    have:m ≠ n:=fun e => h (by simp [e])
    rw [Tab.wakes,wakes_at (fun a ha => h0 a (by simp [ha])) (fun g => h (by simp [g]))]
    rw [Tab.wake,at?_set (h0 n (by simp)),if_neg this]
theorem TabOk.wakes {r : Pr → Int} : ∀ {l : List Int} {t : Tab}, TabOk t → l.Nodup → (∀ n ∈ l, (at? t.ps n).map Pr.state = some 2) → TabOk (t.wakes r l)
  | [],t,h,_,_ => h
  | n :: l, t, h, hn, hs => by
    obtain ⟨p,hp,hs2⟩:=Option.map_eq_some_iff.1 (hs n (by simp))
    refine (h.wake hp hs2 _).wakes (List.nodup_cons.1 hn).2 fun m hm => ?_
    have:m ≠ n:=by rintro rfl; exact (List.nodup_cons.1 hn).1 hm
    rw [Tab.wake,at?_set (at?_lt hp).1,if_neg this]
    exact hs m (by simp [hm])
end Go.Fv.Pl
namespace Go.Fv.Tr
open Go Go.Fv Go.Fv.Pl Go.Proofs
variable {G:GV}
theorem flat_pr (ps:List Pr):flatRows (ps.map prRow) = true:=by
 simp [flatRows,prRow,V.flat]
theorem flat_ir (q:List Int):flatRows (q.map intRow) = true:=by
 simp [flatRows,intRow,V.flat]
theorem flat_tm (ts:List Tm):flatRows (ts.map tmRow) = true:=by
 simp [flatRows,tmRow,V.flat]
theorem eq_slnil {c:Bool}:eqV .slice c .nils .nils = some true:=rfl
theorem eq_slemp {c:Bool}:eqV .slice c .emp .nils = some false:=rfl
theorem eq_slimm {c:Bool} {sz:Nat} {rows:List (List V)}:eqV .slice c (.imm sz rows) .nils = some false:=rfl
def New (H:Heap) (sz:Nat) (rows:List (List V)) (x:V) (H':Heap):Prop:=Own H' x sz rows ∧ Frame H H' (fun _ => False) ∧ ∀ l,loc x = some l → H.next ≤ l
theorem clone72 (n:Nat) {x:V} {rows:List (List V)} (hx:Sls x 21 rows) (hf:flatRows rows = true) (hr:rows.length * 104 ≤ room) {H:Heap} (hH:H.floor ≤ H.next) :
  Run (callV (cfg G) (sem (cfg G) (n + 1)) 54 [x]) H (New H 21 rows):=by
 refine callV_own rfl (mapM_closedV (by simp [hx.closedV]) H) ?_
 rw [slices_Clone_ferry_api_Proc_ferry_api_Proc_eq]
 simp only [slices_Clone_ferry_api_Proc_ferry_api_Proc]
 rcases hx with rfl | ⟨rfl,rfl | rfl⟩
 ·(repeat' (first | (simp only [wp,extractV,w0,reduceIte,Nat.reduceAdd,Nat.reduceLT,Nat.reduceLeDiff,Nat.reduceEqDiff,eq_slimm,Run.slice0]) | (with_reducible ((first | apply xC | apply xG | apply xQ) <;> intro hb <;> try simp only [hb]))))
  refine (Run.app (bytes:=104) (Nat.le_refl _) (Own.emp _ _) (Sls.items (Sls.imm _ _) _) (by simpa using hr)).mono fun x' H' ⟨o,_,_⟩ => ?_
  (repeat' (first | (simp only [wp,extractV,w0,reduceIte,Nat.reduceAdd,Nat.reduceLT,Nat.reduceLeDiff,Nat.reduceEqDiff]) | (with_reducible ((first | apply xC | apply xG | apply xQ) <;> intro hb <;> try simp only [hb]))))
  exact o.hand hf hH
 ·(repeat' (first | (simp only [wp,extractV,w0,reduceIte,Nat.reduceAdd,Nat.reduceLT,Nat.reduceLeDiff,Nat.reduceEqDiff,eq_slnil]) | (with_reducible ((first | apply xC | apply xG | apply xQ) <;> intro hb <;> try simp only [hb]))))
  exact (Own.nils _ _).hand hf hH
 ·(repeat' (first | (simp only [wp,extractV,w0,reduceIte,Nat.reduceAdd,Nat.reduceLT,Nat.reduceLeDiff,Nat.reduceEqDiff,eq_slemp,Run.slice0]) | (with_reducible ((first | apply xC | apply xG | apply xQ) <;> intro hb <;> try simp only [hb]))))
  refine (Run.app (bytes:=104) (Nat.le_refl _) (Own.emp _ _) (Sls.items (Sls.emp _) _) (by simp)).mono fun x' H' ⟨o,_,_⟩ => ?_
  (repeat' (first | (simp only [wp,extractV,w0,reduceIte,Nat.reduceAdd,Nat.reduceLT,Nat.reduceLeDiff,Nat.reduceEqDiff]) | (with_reducible ((first | apply xC | apply xG | apply xQ) <;> intro hb <;> try simp only [hb]))))
  exact o.hand hf hH
theorem clone73 (n:Nat) {x:V} {rows:List (List V)} (hx:Sls x 1 rows) (hf:flatRows rows = true) (hr:rows.length * 8 ≤ room) {H:Heap} (hH:H.floor ≤ H.next) :
  Run (callV (cfg G) (sem (cfg G) (n + 1)) 55 [x]) H (New H 1 rows):=by
 refine callV_own rfl (mapM_closedV (by simp [hx.closedV]) H) ?_
 rw [slices_Clone_int_int_eq]
 simp only [slices_Clone_int_int]
 rcases hx with rfl | ⟨rfl,rfl | rfl⟩
 ·(repeat' (first | (simp only [wp,extractV,w0,reduceIte,Nat.reduceAdd,Nat.reduceLT,Nat.reduceLeDiff,Nat.reduceEqDiff,eq_slimm,Run.slice0]) | (with_reducible ((first | apply xC | apply xG | apply xQ) <;> intro hb <;> try simp only [hb]))))
  refine (Run.app (bytes:=8) (Nat.le_refl _) (Own.emp _ _) (Sls.items (Sls.imm _ _) _) (by simpa using hr)).mono fun x' H' ⟨o,_,_⟩ => ?_
  (repeat' (first | (simp only [wp,extractV,w0,reduceIte,Nat.reduceAdd,Nat.reduceLT,Nat.reduceLeDiff,Nat.reduceEqDiff]) | (with_reducible ((first | apply xC | apply xG | apply xQ) <;> intro hb <;> try simp only [hb]))))
  exact o.hand hf hH
 ·(repeat' (first | (simp only [wp,extractV,w0,reduceIte,Nat.reduceAdd,Nat.reduceLT,Nat.reduceLeDiff,Nat.reduceEqDiff,eq_slnil]) | (with_reducible ((first | apply xC | apply xG | apply xQ) <;> intro hb <;> try simp only [hb]))))
  exact (Own.nils _ _).hand hf hH
 ·(repeat' (first | (simp only [wp,extractV,w0,reduceIte,Nat.reduceAdd,Nat.reduceLT,Nat.reduceLeDiff,Nat.reduceEqDiff,eq_slemp,Run.slice0]) | (with_reducible ((first | apply xC | apply xG | apply xQ) <;> intro hb <;> try simp only [hb]))))
  refine (Run.app (bytes:=8) (Nat.le_refl _) (Own.emp _ _) (Sls.items (Sls.emp _) _) (by simp)).mono fun x' H' ⟨o,_,_⟩ => ?_
  (repeat' (first | (simp only [wp,extractV,w0,reduceIte,Nat.reduceAdd,Nat.reduceLT,Nat.reduceLeDiff,Nat.reduceEqDiff]) | (with_reducible ((first | apply xC | apply xG | apply xQ) <;> intro hb <;> try simp only [hb]))))
  exact o.hand hf hH
theorem clone74 (n:Nat) {x:V} {rows:List (List V)} (hx:Sls x 2 rows) (hf:flatRows rows = true) (hr:rows.length * 16 ≤ room) {H:Heap} (hH:H.floor ≤ H.next) :
  Run (callV (cfg G) (sem (cfg G) (n + 1)) 56 [x]) H (New H 2 rows):=by
 refine callV_own rfl (mapM_closedV (by simp [hx.closedV]) H) ?_
 rw [slices_Clone_ferry_api_Timer_ferry_api_Timer_eq]
 simp only [slices_Clone_ferry_api_Timer_ferry_api_Timer]
 rcases hx with rfl | ⟨rfl,rfl | rfl⟩
 ·(repeat' (first | (simp only [wp,extractV,w0,reduceIte,Nat.reduceAdd,Nat.reduceLT,Nat.reduceLeDiff,Nat.reduceEqDiff,eq_slimm,Run.slice0]) | (with_reducible ((first | apply xC | apply xG | apply xQ) <;> intro hb <;> try simp only [hb]))))
  refine (Run.app (bytes:=16) (Nat.le_refl _) (Own.emp _ _) (Sls.items (Sls.imm _ _) _) (by simpa using hr)).mono fun x' H' ⟨o,_,_⟩ => ?_
  (repeat' (first | (simp only [wp,extractV,w0,reduceIte,Nat.reduceAdd,Nat.reduceLT,Nat.reduceLeDiff,Nat.reduceEqDiff]) | (with_reducible ((first | apply xC | apply xG | apply xQ) <;> intro hb <;> try simp only [hb]))))
  exact o.hand hf hH
 ·(repeat' (first | (simp only [wp,extractV,w0,reduceIte,Nat.reduceAdd,Nat.reduceLT,Nat.reduceLeDiff,Nat.reduceEqDiff,eq_slnil]) | (with_reducible ((first | apply xC | apply xG | apply xQ) <;> intro hb <;> try simp only [hb]))))
  exact (Own.nils _ _).hand hf hH
 ·(repeat' (first | (simp only [wp,extractV,w0,reduceIte,Nat.reduceAdd,Nat.reduceLT,Nat.reduceLeDiff,Nat.reduceEqDiff,eq_slemp,Run.slice0]) | (with_reducible ((first | apply xC | apply xG | apply xQ) <;> intro hb <;> try simp only [hb]))))
  refine (Run.app (bytes:=16) (Nat.le_refl _) (Own.emp _ _) (Sls.items (Sls.emp _) _) (by simp)).mono fun x' H' ⟨o,_,_⟩ => ?_
  (repeat' (first | (simp only [wp,extractV,w0,reduceIte,Nat.reduceAdd,Nat.reduceLT,Nat.reduceLeDiff,Nat.reduceEqDiff]) | (with_reducible ((first | apply xC | apply xG | apply xQ) <;> intro hb <;> try simp only [hb]))))
  exact o.hand hf hH
structure OwnTab (H:Heap) (x y z:V) (t:Tab):Prop where
 p:Own H x 21 (t.ps.map prRow)
 q:Own H y 1 (t.q.map intRow)
 s:Own H z 2 (t.ts.map tmRow)
 pq:∀ l,loc x = some l → loc y ≠ some l
 ps:∀ l,loc x = some l → loc z ≠ some l
 qs:∀ l,loc y = some l → loc z ≠ some l
def NewTab (H:Heap) (t:Tab) (v:V) (H':Heap):Prop :=
 ∃ x y z,v = .agg [x,y,z] ∧ OwnTab H' x y z t ∧ Frame H H' (fun _ => False) ∧ ∀ l,loc x = some l ∨ loc y = some l ∨ loc z = some l → H.next ≤ l
theorem OwnTab.gives {H:Heap} {x y z:V} {t:Tab} (h:OwnTab H x y z t):∃ a b c ls,Fv.gives H [x,y,z] [] = some ([a,b,c],ls) ∧ Gv a 21 (t.ps.map prRow) ∧ Gv b 1 (t.q.map intRow) ∧ Gv c 2 (t.ts.map tmRow):=by
 obtain ⟨a,a1,a2⟩:=h.p.give (flat_pr _) (ls:=[]) (fun _ _ => by simp)
 obtain ⟨b,b1,b2⟩:=h.q.give (flat_ir _) (ls:=(loc x).toList ++ []) (fun l hl hm => by
  cases hx:loc x with
  | none => rw [hx] at hm; simp at hm
  | some l' => rw [hx] at hm; simp at hm; subst hm; exact h.pq _ hx hl)
 obtain ⟨c,c1,c2⟩:=h.s.give (flat_tm _) (ls:=(loc y).toList ++ ((loc x).toList ++ [])) (fun l hl hm => by
  rcases List.mem_append.1 hm with g | g
  ·cases hy:loc y with
   | none => rw [hy] at g; simp at g
   | some l' => rw [hy] at g; simp at g; subst g; exact h.qs _ hy hl
  ·cases hx:loc x with
   | none => rw [hx] at g; simp at g
   | some l' => rw [hx] at g; simp at g; subst g; exact h.ps _ hx hl)
 exact ⟨a,b,c,_,by simp only [Fv.gives,a1,b1,c1,Option.bind_some]; rfl,a2,b2,c2⟩
theorem takes_tab {H:Heap} {a b c:V} {t:Tab} (ha:Gv a 21 (t.ps.map prRow)) (hb:Gv b 1 (t.q.map intRow)) (hc:Gv c 2 (t.ts.map tmRow)) (hH:H.floor ≤ H.next) :
  Run (takes [a,b,c]) H fun l H' => NewTab H t (.agg l) H':=by
 have r1:=ha.take hH
 simp only [takes,Run.bind]
 refine r1.mono fun x H1 ⟨o1,f1,l1⟩ => ?_
 refine (hb.take (by rw [f1.floor]; exact Nat.le_trans hH f1.next)).mono fun y H2 ⟨o2,f2,l2⟩ => ?_
 refine (hc.take (by rw [f2.floor,f1.floor]; exact Nat.le_trans hH (Nat.le_trans f1.next f2.next))).mono fun z H3 ⟨o3,f3,l3⟩ => ?_
 simp only [Run.ret]
 refine ⟨x,y,z,rfl,⟨(o1.frame f2 (fun _ _ h => h)).frame f3 (fun _ _ h => h),o2.frame f3 (fun _ _ h => h),o3,?_,?_,?_⟩,(f1.trans f2 (fun _ _ h => h) (fun _ _ h => h)).trans f3 (fun _ _ h => h) (fun _ _ h => h),?_⟩
 ·intro l hl hl'
  have:=o1.lt hl; have:=l2 l hl'; omega
 ·intro l hl hl'
  have:=o1.lt hl; have:=l3 l hl'; have:=f2.next; omega
 ·intro l hl hl'
  have:=o2.lt hl; have:=l3 l hl'; omega
 ·intro l hl
  have:=f1.next; have:=f2.next
  rcases hl with h | h | h
  ·exact l1 l h
  ·have:=l2 l h; omega
  ·have:=l3 l h; omega
theorem OwnTab.hand {H H':Heap} {x y z:V} {t:Tab} (h:OwnTab H' x y z t) (hH:H.floor ≤ H.next) :
  ∃ g,giveV H' (.agg [x,y,z]) = some g ∧ Run (takeV g) H (NewTab H t):=by
 obtain ⟨a,b,c,ls,e,ha,hb,hc⟩:=h.gives
 refine ⟨.agg [a,b,c],by simp only [giveV,give2,e,Option.bind_some],?_⟩
 simp only [takeV,take2,Run.bind]
 exact (takes_tab ha hb hc hH).mono fun l H1 q => Run.ret.2 q
theorem OwnTab.hand2 {H H':Heap} {x y z e:V} {t:Tab} (h:OwnTab H' x y z t) (he:e = .nili) (hH:H.floor ≤ H.next) :
  ∃ g,giveV H' (.tuple [.agg [x,y,z],e]) = some g ∧ Run (takeV g) H fun v H1 => ∃ u,v = .tuple [u,e] ∧ NewTab H t u H1:=by
 subst he
 obtain ⟨a,b,c,ls,e,ha,hb,hc⟩:=h.gives
 refine ⟨.tuple [.agg [a,b,c],.nili],by simp only [giveV,gives2,give2,e,Option.bind_some,Fv.give,V.flat,if_true],?_⟩
 simp only [takeV,takes2,take2,take1,Run.bind]
 refine (takes_tab ha hb hc hH).mono fun l H1 q => ?_
 simp only [Run.ret]
 refine Run.of rfl ?_
 exact ⟨_,rfl,q⟩
structure Small (t:Tab):Prop where
 p:t.ps.length * 104 ≤ room
 q:t.q.length * 8 ≤ room
 s:t.ts.length * 16 ≤ room
theorem small_of {t:Tab} (h:TabOk t):Small t:=by
 have:=((ROk_iff t).2 h).few
 refine ⟨?_,?_,?_⟩ <;> unfold room <;> omega
def badV (g:Nat):V:=.tuple [.agg [.nils,.nils,.nils],errV g]
def Asks (G:GV) (n:Nat) (F:V) (c:Nat) (cb:Blk) {α:Type} (arg:α → V) (f:α → Bool):Prop :=
 ∀ (H:Heap) (a:α) (Q:V → Heap → Prop),H.blk c = some cb → (Run (callFn (cfg G) (sem (cfg G) n) F [arg a]) H Q ↔ Q (.bool (f a)) H)
def idxF {α:Type} (f:α → Bool):List α → Nat → Int
 | [],_ => -1
 | a :: l,k => if f a then (k:Int) else idxF f l (k + 1)
theorem idxF_cases {α : Type} (f : α → Bool) : ∀ (l : List α) (k : Nat), (idxF f l k = -1 ∧ ∀ a ∈ l, f a = false) ∨ ∃ i, ∃ h : i < l.length, idxF f l k = ((k + i : Nat) : Int) ∧ f l[i] = true ∧ ∀ a ∈ l.take i, f a = false
  | [],k => .inl ⟨rfl,by simp⟩
  | a :: l, k => by
    cases ha:f a with
    | true => exact .inr ⟨0,by simp,by simp [idxF,ha],by simpa using ha,by simp⟩
    | false =>
      have e:idxF f (a :: l) k = idxF f l (k + 1):=by simp [idxF,ha]
      rcases idxF_cases f l (k + 1) with ⟨h1,h2⟩ | ⟨i,h,h1,h2,h3⟩
      · exact .inl ⟨e.trans h1,by simpa [ha] using h2⟩
      · refine .inr ⟨i + 1,by simpa using h,?_,by simpa using h2,by simpa [ha] using h3⟩
        rw [e,h1]
        congr 1
        omega
theorem Run.clear {sz:Nat} {zero:List V} {l s n c:Nat} {ex:Bool} {H:Heap} {b:Blk} {Q:V → Heap → Prop} (hz:sz = sz) (hf:H.floor ≤ l) (hb:H.blk l = some b) (hn:s + n ≤ b.rows.length)
  (q:Q (.tuple []) (H.set l ⟨b.sz,b.rows.take s ++ List.replicate n zero ++ b.rows.drop (s + n)⟩)):Run (clearV sz zero (.ref l sz s n c ex)) H Q :=
 Run.of (by simp only [clearV,hf,and_self,if_true,hb,Option.bind_some,hn]) q
end Go.Fv.Tr
