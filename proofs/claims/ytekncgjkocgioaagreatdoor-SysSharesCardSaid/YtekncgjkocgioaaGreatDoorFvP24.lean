/-
  valid: the small questions about a number and a process. By an AI agent; no person has read it.
-/
import Derived.Test.YtekncgjkocgioaaGreatDoorFvP13
import Derived.Test.YtekncgjkocgioaaGreatDoorFvP23
set_option linter.unusedVariables false
set_option linter.unusedSimpArgs false
set_option linter.unusedSectionVars false
/-! valid: the small questions about a number and a process. -/
namespace Go.Fv.Tr
open Go Go.Fv Go.Fv.Pl Go.Proofs
variable {G:GV}
theorem between_spec (n:Nat) (a lo hi:Int):callV (cfg G) (sem (cfg G) (n + 1)) 158 [.int .i64 a,.int .i64 lo,.int .i64 hi] = M.ret (.bool (decide (lo ≤ a ∧ a ≤ hi))):=by
 refine callV_pure0 rfl rfl rfl ?_
 rw [ferry_valid_between_eq]
 simp only [ferry_valid_between]
 (repeat' (first | (simp only [wp,extractV,w0,reduceIte,Nat.reduceAdd,Nat.reduceLT,Nat.reduceLeDiff,Nat.reduceEqDiff]) | (with_reducible ((first | apply xC | apply xG | apply xQ) <;> intro hb <;> try simp only [hb]))))
 all_goals (try simp_all) <;> (try omega)
theorem within_spec (n:Nat) (a many:Int):callV (cfg G) (sem (cfg G) (n + 1)) 175 [.int .i64 a,.int .i64 many] = M.ret (.bool (decide (0 ≤ a ∧ a < many))):=by
 refine callV_pure0 rfl rfl rfl ?_
 rw [ferry_valid_within_eq]
 simp only [ferry_valid_within]
 (repeat' (first | (simp only [wp,extractV,w0,reduceIte,Nat.reduceAdd,Nat.reduceLT,Nat.reduceLeDiff,Nat.reduceEqDiff]) | (with_reducible ((first | apply xC | apply xG | apply xQ) <;> intro hb <;> try simp only [hb]))))
 all_goals (try simp_all) <;> (try omega)
def NumOk (p:Pr):Prop:=reg0 p = 0 ∧ (0 ≤ p.state ∧ p.state ≤ 3) ∧ (0 ≤ p.prio ∧ p.prio ≤ 255) ∧ (0 ≤ p.wait ∧ p.wait ≤ 4)
instance (p:Pr):Decidable (NumOk p):=by unfold NumOk; infer_instance
theorem numbers_spec (n:Nat) {p:Pr} (h:Wp p):callV (cfg G) (sem (cfg G) (n + 2)) 160 [.agg (prRow p)] = M.ret (.bool (decide (NumOk p))):=by
 refine callV_pure0 rfl ?_ rfl ?_
 ·simp [V.closedV,prRow,V.closed,V.flat]
 rw [ferry_valid_numbers_eq]
 simp only [ferry_valid_numbers]
 (repeat' (first | (simp only [wp,extractV,w0,reduceIte,Nat.reduceAdd,Nat.reduceLT,Nat.reduceLeDiff,Nat.reduceEqDiff,aidx0,pr_reg0 h,pr_state h,pr_prio h,pr_wait h,pr_obj h,pr_len h,pr_take h,between_spec]) | (with_reducible ((first | apply xC | apply xG | apply xQ) <;> intro hb <;> try simp only [hb]))))
 all_goals (try simp_all [NumOk]) <;> (try omega)
end Go.Fv.Tr
namespace Go.Fv.Tr
open Go Go.Fv Go.Fv.Pl Go.Proofs
variable {G:GV}
theorem ready_good_spec (hG:Errs G) (n:Nat) {x y z:V} {t:Tab} (h:IsTab x y z t):callV (cfg G) (sem (cfg G) (n + 6)) 137 [.agg [x,y,z]] = M.ret (.bool (decide (TabOk t))):=by
 refine callV_pure0 rfl (by simp [h.closed]) rfl ?_
 rw [ferry_ready_Good_eq]
 by_cases h8:t.ps.length ≤ 8
 ·have e0:decide ((8:Int) < (t.ps.length:Int)) = false:=by simp; omega
  by_cases hts:TsOk t.ps.length t.ts
  ·have e1:orNil (TsOk t.ps.length t.ts) 2 = .nili:=if_pos hts
   simp only [ferry_ready_Good]
   (repeat' (first | (simp only [wp,extractV,w0,reduceIte,Nat.reduceAdd,Nat.reduceLT,Nat.reduceLeDiff,Nat.reduceEqDiff,h.p.len,List.length_map,e0,check_spec hG _ h.s h.big.2.2 h8,e1]) | (with_reducible ((first | apply xC | apply xG | apply xQ) <;> intro hb <;> try simp only [hb]))))
   refine Run.loop (N:=t.ps.length) (fun i s H => s = [.bool false,.int .i64 (i:Nat)] ∧ H.floor = 0 ∧ 1 ≤ H.next ∧ H.blk 0 = some ⟨3,[[x,y,z]]⟩ ∧ ∀ j p,j < i → t.ps[j]? = some p → RowOk t.ts (j:Nat) p)
    ⟨rfl,rfl,by simp [Heap.add_next],by simp [Heap.add_blk,Heap.empty_next],by simp⟩ ?_
   rintro i s H hi ⟨rfl,hf,hn,hb0,hall⟩
   by_cases hlt:i < t.ps.length
   ·have h2:=h.p.idx (k:=.i64) (i:=i) (by simpa using hlt)
    simp only [List.getElem_map] at h2
    have hw:=h.wp _ (List.getElem_mem hlt)
    have hne:¬ 0 = H.next:=by omega
    have hlt1:0 < H.next:=by omega
    have hrow:TabOk t → RowOk t.ts (i:Nat) t.ps[i]:=fun g => g.ps i _ (List.getElem?_eq_getElem hlt)
    have hpr:decide (PrOk t.ps[i]) = true → PrOk t.ps[i]:=of_decide_eq_true
    have hs:RowOk t.ts (i:Nat) t.ps[i] → i < t.ps.length ∧ ∀ j p,j < i + 1 → t.ps[j]? = some p → RowOk t.ts (j:Nat) p:=fun g => by
     refine ⟨hlt,fun j p hj hp => ?_⟩
     rcases Nat.lt_succ_iff_lt_or_eq.1 hj with h' | rfl
     ·exact hall j p h' hp
     ·rw [List.getElem?_eq_getElem hlt] at hp
      cases hp
      exact g
    simp only [ferry_ready_Good_l1]
    (repeat' (first | (simp only [wp,extractV,w0,reduceIte,Nat.reduceAdd,Nat.reduceLT,Nat.reduceLeDiff,Nat.reduceEqDiff,ltT hlt,h2,addN hlt h.big.1,hf,hb0,pr_len hw,pr_take hw,pr_state hw,pr_wait hw,hne,hlt1,find_spec _ h.s h.big.2.2,goodProc_spec _ hw]) | (with_reducible ((first | apply xC | apply xG | apply xQ) <;> intro hb <;> try simp only [hb]))))
    ·have hb':t.ps[i].state = 2:=by simpa using hb
     exact hs ⟨hpr (by assumption),fun _ => hb',fun g => absurd (of_decide_eq_true (by assumption)) g⟩
    ·refine boolF fun g => ?_
     have:=(hrow g).2.1 (of_decide_eq_true (by assumption))
     simp [this] at hb
    ·refine boolF fun g => ?_
     have hb':t.ps[i].wait = 1:=by simpa using hb
     exact (hrow g).2.2 (of_decide_eq_false (by assumption)) hb'
    ·have hb':t.ps[i].wait ≠ 1:=by simpa using hb
     exact hs ⟨hpr (by assumption),fun g => absurd g (of_decide_eq_false (by assumption)),fun _ => hb'⟩
    ·exact boolF fun g => of_decide_eq_false hb (hrow g).1
   ·simp only [ferry_ready_Good_l1]
    (repeat' (first | (simp only [wp,extractV,w0,reduceIte,Nat.reduceAdd,Nat.reduceLT,Nat.reduceLeDiff,Nat.reduceEqDiff,ltF hlt,hb0,goodQueue_spec _ h h8]) | (with_reducible ((first | apply xC | apply xG | apply xQ) <;> intro hb <;> try simp only [hb]))))
    refine boolE ⟨fun g => ⟨h8,hts,fun i p hp => hall i p ?_ hp,g⟩,fun g => g.q⟩
    have:=(List.getElem?_eq_some_iff.1 hp).1
    omega
  ·have e1:orNil (TsOk t.ps.length t.ts) 2 = errV 2:=if_neg hts
   simp only [ferry_ready_Good]
   (repeat' (first | (simp only [wp,extractV,w0,reduceIte,Nat.reduceAdd,Nat.reduceLT,Nat.reduceLeDiff,Nat.reduceEqDiff,h.p.len,List.length_map,e0,check_spec hG _ h.s h.big.2.2 h8,e1,eq_err]) | (with_reducible ((first | apply xC | apply xG | apply xQ) <;> intro hb <;> try simp only [hb]))))
   exact boolF fun g => hts g.ts
 ·have e0:decide ((8:Int) < (t.ps.length:Int)) = true:=by simp; omega
  simp only [ferry_ready_Good]
  (repeat' (first | (simp only [wp,extractV,w0,reduceIte,Nat.reduceAdd,Nat.reduceLT,Nat.reduceLeDiff,Nat.reduceEqDiff,h.p.len,List.length_map,e0]) | (with_reducible ((first | apply xC | apply xG | apply xQ) <;> intro hb <;> try simp only [hb]))))
  exact boolF fun g => h8 g.few
theorem best_snoc (f:Int → Int) (b n:Int) (l:List Int):best f b (l ++ [n]) = if f n > f (best f b l) then n else best f b l:=by
 simp [best,List.foldl_append]
end Go.Fv.Tr
namespace Go.Fv.Tr
open Go Go.Fv Go.Proofs
set_option maxRecDepth 20000
noncomputable def slices_Clone_ferry_api_Proc_ferry_api_Proc (G:GV) (call:CV) (x0:V):M R :=
 (M.ret V.nils).bind fun aA =>
 (M.ret x0).bind fun aB =>
 (M.lift ((eqV .slice true aB V.nils).bind fun b => some (.bool b))).bind fun aC =>
 (condV aC
 ((M.ret V.nils).bind fun aD =>
 M.ret (Ex.ret,[aD]))
 ((sliceV 21 0 [(V.int .u32 0),(V.int .u32 0),(V.int .u32 0),(V.int .u32 0),(V.int .u32 0),(V.int .u32 0),(V.int .u32 0),(V.int .u32 0),(V.int .u32 0),(V.int .u32 0),(V.int .u32 0),(V.int .u32 0),(V.int .u32 0),(V.int .u32 0),(V.int .u32 0),(V.int .u32 0),(V.int .u32 0),(V.int .i64 0),(V.int .i64 0),(V.int .i64 0),(V.int .i64 0)] []).bind fun aE =>
 (M.ret x0).bind fun aF =>
 (appV 21 104 aE aF).bind fun aG =>
 (M.ret aG).bind fun aH =>
 M.ret (Ex.ret,[aH])))
theorem slices_Clone_ferry_api_Proc_ferry_api_Proc_eq (G:GV) (n:Nat) (x0:V):sem (cfg G) (n + 1) 54 [x0] = outV (slices_Clone_ferry_api_Proc_ferry_api_Proc G (sem (cfg G) n) x0) :=
 (fnV_at (C:=cfg G) (n:=n) (f:=54) (fn:=Tryz.f54) (c:=Tryz.f54.body.getD .skip) (by kernel_rfl) (by kernel_rfl) (by kernel_rfl) [x0]).trans (by kernel_rfl)
noncomputable def slices_Clone_int_int (G:GV) (call:CV) (x0:V):M R :=
 (M.ret V.nils).bind fun aA =>
 (M.ret x0).bind fun aB =>
 (M.lift ((eqV .slice true aB V.nils).bind fun b => some (.bool b))).bind fun aC =>
 (condV aC
 ((M.ret V.nils).bind fun aD =>
 M.ret (Ex.ret,[aD]))
 ((sliceV 1 0 [(V.int .i64 0)] []).bind fun aE =>
 (M.ret x0).bind fun aF =>
 (appV 1 8 aE aF).bind fun aG =>
 (M.ret aG).bind fun aH =>
 M.ret (Ex.ret,[aH])))
theorem slices_Clone_int_int_eq (G:GV) (n:Nat) (x0:V):sem (cfg G) (n + 1) 55 [x0] = outV (slices_Clone_int_int G (sem (cfg G) n) x0) :=
 (fnV_at (C:=cfg G) (n:=n) (f:=55) (fn:=Tryz.f55) (c:=Tryz.f55.body.getD .skip) (by kernel_rfl) (by kernel_rfl) (by kernel_rfl) [x0]).trans (by kernel_rfl)
noncomputable def slices_Clone_ferry_api_Timer_ferry_api_Timer (G:GV) (call:CV) (x0:V):M R :=
 (M.ret V.nils).bind fun aA =>
 (M.ret x0).bind fun aB =>
 (M.lift ((eqV .slice true aB V.nils).bind fun b => some (.bool b))).bind fun aC =>
 (condV aC
 ((M.ret V.nils).bind fun aD =>
 M.ret (Ex.ret,[aD]))
 ((sliceV 2 0 [(V.int .i64 0),(V.int .i64 0)] []).bind fun aE =>
 (M.ret x0).bind fun aF =>
 (appV 2 16 aE aF).bind fun aG =>
 (M.ret aG).bind fun aH =>
 M.ret (Ex.ret,[aH])))
theorem slices_Clone_ferry_api_Timer_ferry_api_Timer_eq (G:GV) (n:Nat) (x0:V):sem (cfg G) (n + 1) 56 [x0] = outV (slices_Clone_ferry_api_Timer_ferry_api_Timer G (sem (cfg G) n) x0) :=
 (fnV_at (C:=cfg G) (n:=n) (f:=56) (fn:=Tryz.f56) (c:=Tryz.f56.body.getD .skip) (by kernel_rfl) (by kernel_rfl) (by kernel_rfl) [x0]).trans (by kernel_rfl)
noncomputable def ferry_ready_Table_copied (G:GV) (call:CV) (x0:V):M R :=
 (newV x0).bind fun aA =>
 (newV (.agg [V.nils,V.nils,V.nils])).bind fun aB =>
 (getN.bind fun n3 =>
 (M.lift (padd 0 aA)).bind fun aC =>
 getN.bind fun n5 =>
 (load1 aC).bind fun aD =>
 getN.bind fun n7 =>
 (qrun (visB n3 [(n5,n7,true),(n3,n5,true)]) (callV (cfg G) call 54 [aD])).bind fun aE =>
 getN.bind fun n9 =>
 (M.lift (padd 1 aA)).bind fun aF =>
 getN.bind fun aG =>
 (load1 aF).bind fun aH =>
 getN.bind fun aI =>
 (qrun (visB n3 [(aG,aI,true),(n9,aG,true),(n7,n9,true),(n5,n7,true),(n3,n5,true)]) (callV (cfg G) call 55 [aH])).bind fun aJ =>
 getN.bind fun aK =>
 (M.lift (padd 2 aA)).bind fun aL =>
 getN.bind fun aM =>
 (load1 aL).bind fun aN =>
 getN.bind fun aO =>
 (qrun (visB n3 [(aM,aO,true),(aK,aM,true),(aI,aK,true),(aG,aI,true),(n9,aG,true),(n7,n9,true),(n5,n7,true),(n3,n5,true)]) (callV (cfg G) call 56 [aN])).bind fun aP =>
 (M.lift (buildV [V.nils,V.nils,V.nils] [(0,1,aE),(1,1,aJ),(2,1,aP)])).bind fun aQ =>
 (storeN 3 aB aQ).bind fun _ =>
 (((loadN 3 aB)).bind fun v => (M.ret []).bind fun l => M.ret (v :: l)).bind fun l => M.ret (Ex.ret,tupV l))
theorem ferry_ready_Table_copied_eq (G:GV) (n:Nat) (x0:V):sem (cfg G) (n + 1) 138 [x0] = outV (ferry_ready_Table_copied G (sem (cfg G) n) x0) :=
 (fnV_at (C:=cfg G) (n:=n) (f:=138) (fn:=Tryz.f138) (c:=Tryz.f138.body.getD .skip) (by kernel_rfl) (by kernel_rfl) (by kernel_rfl) [x0]).trans (by kernel_rfl)
noncomputable def slices_Index_int_int_l1 (G:GV) (call:CV) (aA:V) (x1:V) (x0:V) (aB:List V):M R :=
 (M.lift (arithV .lss (aB.getD 1 V.undef) aA)).bind fun aC =>
 (condV aC
 ((M.ret (aB.getD 1 V.undef)).bind fun aD =>
 (M.ret aD).bind fun aE =>
 (M.ret x1).bind fun aF =>
 (M.ret x0).bind fun aG =>
 (M.ret aE).bind fun aH =>
 (M.lift (idxV 1 aG aH)).bind fun aI =>
 (load1 aI).bind fun aJ =>
 (M.lift ((eqV (.sc .int) false aF aJ).bind fun b => some (.bool b))).bind fun aK =>
 (condV aK
 ((M.ret aE).bind fun aL =>
 (M.ret aL).bind fun aM =>
 M.ret (Ex.ret,[aM,(aB.getD 1 V.undef)]))
 ((M.lift (arithV .add (aB.getD 1 V.undef) (V.int .i64 1))).bind fun aN =>
 (M.ret aN).bind fun aO =>
 M.ret (Ex.normal,[(aB.getD 0 V.undef),aO]))))
 (M.ret ((Ex.exit 0),[(aB.getD 0 V.undef),(aB.getD 1 V.undef)])))
noncomputable def slices_Index_int_int (G:GV) (call:CV) (x0:V) (x1:V):M R :=
 (M.ret (V.int .i64 0)).bind fun aA =>
 (M.ret x0).bind fun aB =>
 (M.lift (lenV aB)).bind fun aC =>
 (M.ret (V.int .i64 0)).bind fun aD =>
 (loopV (slices_Index_int_int_l1 G call aC x1 x0) [aA,aD]).bind fun aE => match aE.1 with
 | .normal => M.fail
 | .exit k0_20 =>
 (if k0_20 = 0 then
 (M.ret (V.int .i64 (-1))).bind fun aF =>
 M.ret (Ex.ret,[aF])
 else M.fail)
 | .ret =>
 M.ret (Ex.ret,[(aE.2.getD 0 V.undef)])
theorem slices_Index_int_int_eq (G:GV) (n:Nat) (x0:V) (x1:V):sem (cfg G) (n + 1) 235 [x0,x1] = outV (slices_Index_int_int G (sem (cfg G) n) x0 x1) :=
 (fnV_at (C:=cfg G) (n:=n) (f:=235) (fn:=Tryz.f235) (c:=Tryz.f235.body.getD .skip) (by kernel_rfl) (by kernel_rfl) (by kernel_rfl) [x0,x1]).trans (by kernel_rfl)
noncomputable def slices_Contains_int_int (G:GV) (call:CV) (x0:V) (x1:V):M R :=
 (M.ret (V.bool false)).bind fun aA =>
 (M.ret x0).bind fun aB =>
 (M.ret x1).bind fun aC =>
 (callV (cfg G) call 235 [aB,aC]).bind fun aD =>
 (M.lift (arithV .geq aD (V.int .i64 0))).bind fun aE =>
 (M.ret aE).bind fun aF =>
 M.ret (Ex.ret,[aF])
theorem slices_Contains_int_int_eq (G:GV) (n:Nat) (x0:V) (x1:V):sem (cfg G) (n + 1) 194 [x0,x1] = outV (slices_Contains_int_int G (sem (cfg G) n) x0 x1) :=
 (fnV_at (C:=cfg G) (n:=n) (f:=194) (fn:=Tryz.f194) (c:=Tryz.f194.body.getD .skip) (by kernel_rfl) (by kernel_rfl) (by kernel_rfl) [x0,x1]).trans (by kernel_rfl)
noncomputable def ferry_ready_in (G:GV) (call:CV) (x0:V) (x1:V) (x2:V):M R :=
 (newV x0).bind fun aA =>
 (newV (.agg [V.nils,V.nils,V.nils])).bind fun aB =>
 (M.ret V.nili).bind fun aC =>
 (loadN 3 aA).bind fun aD =>
 (callV (cfg G) call 137 [aD]).bind fun aE =>
 (M.lift (unV .not aE)).bind fun aF =>
 (condV aF
 (((M.lift (buildV [V.nils,V.nils,V.nils] [])).bind fun aG =>
 (load1 (glob (cfg G) 2)).bind fun aH =>
 guardM (apartV (glob (cfg G) 2) aB && true) (
 (storeN 3 aB aG).bind fun _ =>
 (M.ret aH).bind fun aI =>
 (((loadN 3 aB)).bind fun v => ((M.ret []).bind fun l => M.ret (aI :: l)).bind fun l => M.ret (v :: l)).bind fun l => M.ret (Ex.ret,tupV l))))
 ((M.ret x1).bind fun aJ =>
 (M.lift (arithV .lss aJ (V.int .i64 0))).bind fun aK =>
 (M.ret aK).bind fun aL =>
 (guardV aL false (M.ret x1)).bind fun aM =>
 (guardV aL false (M.lift (padd 0 aA))).bind fun aN =>
 (guardV aL false (load1 aN)).bind fun aO =>
 (guardV aL false (M.lift (lenV aO))).bind fun aP =>
 (guardV aL false (M.lift (arithV .geq aM aP))).bind fun aQ =>
 (M.lift (pickV aL (V.bool true) aQ)).bind fun aR =>
 (M.ret aR).bind fun aS =>
 (guardV aS false (M.ret x2)).bind fun aT =>
 (guardV aS false (M.lift (padd 0 aA))).bind fun aU =>
 (guardV aS false (load1 aU)).bind fun aV =>
 (guardV aS false (M.ret x1)).bind fun aW =>
 (guardV aS false (M.lift (idxV 21 aV aW))).bind fun aX =>
 (guardV aS false (M.lift (padd 17 aX))).bind fun aY =>
 (guardV aS false (load1 aY)).bind fun aZ =>
 (guardV aS false (callV (cfg G) call 194 [aT,aZ])).bind fun bA =>
 (guardV aS false (M.lift (unV .not bA))).bind fun bB =>
 (M.lift (pickV aS (V.bool true) bB)).bind fun bC =>
 (condV bC
 (((M.lift (buildV [V.nils,V.nils,V.nils] [])).bind fun bD =>
 (load1 (glob (cfg G) 0)).bind fun bE =>
 guardM (apartV (glob (cfg G) 0) aB && true) (
 (storeN 3 aB bD).bind fun _ =>
 (M.ret bE).bind fun bF =>
 (((loadN 3 aB)).bind fun v => ((M.ret []).bind fun l => M.ret (bF :: l)).bind fun l => M.ret (v :: l)).bind fun l => M.ret (Ex.ret,tupV l))))
 ((loadN 3 aA).bind fun bG =>
 (callV (cfg G) call 138 [bG]).bind fun bH =>
 (storeN 3 aB bH).bind fun _ =>
 (M.ret V.nili).bind fun bI =>
 (((loadN 3 aB)).bind fun v => ((M.ret []).bind fun l => M.ret (bI :: l)).bind fun l => M.ret (v :: l)).bind fun l => M.ret (Ex.ret,tupV l)))))
theorem ferry_ready_in_eq (G:GV) (n:Nat) (x0:V) (x1:V) (x2:V):sem (cfg G) (n + 1) 133 [x0,x1,x2] = outV (ferry_ready_in G (sem (cfg G) n) x0 x1 x2) :=
 (fnV_at (C:=cfg G) (n:=n) (f:=133) (fn:=Tryz.f133) (c:=Tryz.f133.body.getD .skip) (by kernel_rfl) (by kernel_rfl) (by kernel_rfl) [x0,x1,x2]).trans (by kernel_rfl)
noncomputable def slices_IndexFunc_int_int_l1 (G:GV) (call:CV) (aA:V) (x1:V) (x0:V) (aB:List V):M R :=
 (M.lift (arithV .lss (aB.getD 1 V.undef) aA)).bind fun aC =>
 (condV aC
 ((M.ret (aB.getD 1 V.undef)).bind fun aD =>
 (M.ret aD).bind fun aE =>
 (M.ret x1).bind fun aF =>
 (M.ret x0).bind fun aG =>
 (M.ret aE).bind fun aH =>
 (M.lift (idxV 1 aG aH)).bind fun aI =>
 (load1 aI).bind fun aJ =>
 (callFn (cfg G) call aF [aJ]).bind fun aK =>
 (condV aK
 ((M.ret aE).bind fun aL =>
 (M.ret aL).bind fun aM =>
 M.ret (Ex.ret,[aM,(aB.getD 1 V.undef)]))
 ((M.lift (arithV .add (aB.getD 1 V.undef) (V.int .i64 1))).bind fun aN =>
 (M.ret aN).bind fun aO =>
 M.ret (Ex.normal,[(aB.getD 0 V.undef),aO]))))
 (M.ret ((Ex.exit 0),[(aB.getD 0 V.undef),(aB.getD 1 V.undef)])))
noncomputable def slices_IndexFunc_int_int (G:GV) (call:CV) (x0:V) (x1:V):M R :=
 (M.ret (V.int .i64 0)).bind fun aA =>
 (M.ret x0).bind fun aB =>
 (M.lift (lenV aB)).bind fun aC =>
 (M.ret (V.int .i64 0)).bind fun aD =>
 (loopV (slices_IndexFunc_int_int_l1 G call aC x1 x0) [aA,aD]).bind fun aE => match aE.1 with
 | .normal => M.fail
 | .exit k0_20 =>
 (if k0_20 = 0 then
 (M.ret (V.int .i64 (-1))).bind fun aF =>
 M.ret (Ex.ret,[aF])
 else M.fail)
 | .ret =>
 M.ret (Ex.ret,[(aE.2.getD 0 V.undef)])
theorem slices_IndexFunc_int_int_eq (G:GV) (n:Nat) (x0:V) (x1:V):sem (cfg G) (n + 1) 228 [x0,x1] = outV (slices_IndexFunc_int_int G (sem (cfg G) n) x0 x1) :=
 (fnV_at (C:=cfg G) (n:=n) (f:=228) (fn:=Tryz.f228) (c:=Tryz.f228.body.getD .skip) (by kernel_rfl) (by kernel_rfl) (by kernel_rfl) [x0,x1]).trans (by kernel_rfl)
noncomputable def slices_DeleteFunc_int_int_j1 (G:GV) (call:CV) (aA:List V) (aB:V):M R :=
 (M.ret (aA.getD 1 V.undef)).bind fun aC =>
 (M.lift (arithV .add aC (V.int .i64 1))).bind fun aD =>
 (M.ret aD).bind fun aE =>
 M.ret (Ex.normal,[aB,aE])
noncomputable def slices_DeleteFunc_int_int_l1 (G:GV) (call:CV) (x0:V) (x1:V) (aA:List V):M R :=
 (M.ret (aA.getD 1 V.undef)).bind fun aB =>
 (M.ret x0).bind fun aC =>
 (M.lift (lenV aC)).bind fun aD =>
 (M.lift (arithV .lss aB aD)).bind fun aE =>
 (condV aE
 ((M.ret x0).bind fun aF =>
 (M.ret (aA.getD 1 V.undef)).bind fun aG =>
 (M.lift (idxV 1 aF aG)).bind fun aH =>
 (load1 aH).bind fun aI =>
 (M.ret aI).bind fun aJ =>
 (M.ret x1).bind fun aK =>
 (M.ret aJ).bind fun aL =>
 (callFn (cfg G) call aK [aL]).bind fun aM =>
 (M.lift (unV .not aM)).bind fun aN =>
 (condV aN
 ((M.ret x0).bind fun aO =>
 (M.ret (aA.getD 0 V.undef)).bind fun aP =>
 (M.ret aJ).bind fun aQ =>
 (M.lift (idxV 1 aO aP)).bind fun aR =>
 (storeN 1 aR aQ).bind fun _ =>
 (M.ret (aA.getD 0 V.undef)).bind fun aS =>
 (M.lift (arithV .add aS (V.int .i64 1))).bind fun aT =>
 (M.ret aT).bind fun aU =>
 slices_DeleteFunc_int_int_j1 G call aA aU)
 (slices_DeleteFunc_int_int_j1 G call aA (aA.getD 0 V.undef))))
 (M.ret ((Ex.exit 0),[(aA.getD 0 V.undef),(aA.getD 1 V.undef)])))
noncomputable def slices_DeleteFunc_int_int (G:GV) (call:CV) (x0:V) (x1:V):M R :=
 (M.ret V.nils).bind fun aA =>
 (M.ret x0).bind fun aB =>
 (M.ret x1).bind fun aC =>
 (callV (cfg G) call 228 [aB,aC]).bind fun aD =>
 (M.ret aD).bind fun aE =>
 (M.ret aE).bind fun aF =>
 (M.lift ((eqV (.sc .int) true aF (V.int .i64 (-1))).bind fun b => some (.bool b))).bind fun aG =>
 (condV aG
 ((M.ret x0).bind fun aH =>
 (M.ret aH).bind fun aI =>
 M.ret (Ex.ret,[aI]))
 ((M.ret aE).bind fun aJ =>
 (M.lift (arithV .add aJ (V.int .i64 1))).bind fun aK =>
 (M.ret aK).bind fun aL =>
 (loopV (slices_DeleteFunc_int_int_l1 G call x0 x1) [aE,aL]).bind fun aM => match aM.1 with
 | .normal => M.fail
 | .exit k0_45 =>
 (if k0_45 = 0 then
 (M.ret x0).bind fun aN =>
 (M.ret (aM.2.getD 0 V.undef)).bind fun aO =>
 (M.lift (slV 1 aN (some aO) none none)).bind fun aP =>
 (clearV 1 [(V.int .i64 0)] aP).bind fun _ =>
 (M.ret x0).bind fun aQ =>
 (M.ret (aM.2.getD 0 V.undef)).bind fun aR =>
 (M.lift (slV 1 aQ none (some aR) none)).bind fun aS =>
 (M.ret aS).bind fun aT =>
 M.ret (Ex.ret,[aT])
 else M.fail)
 | .ret =>
 M.ret (Ex.ret,[aA])))
theorem slices_DeleteFunc_int_int_eq (G:GV) (n:Nat) (x0:V) (x1:V):sem (cfg G) (n + 1) 195 [x0,x1] = outV (slices_DeleteFunc_int_int G (sem (cfg G) n) x0 x1) :=
 (fnV_at (C:=cfg G) (n:=n) (f:=195) (fn:=Tryz.f195) (c:=Tryz.f195.body.getD .skip) (by kernel_rfl) (by kernel_rfl) (by kernel_rfl) [x0,x1]).trans (by kernel_rfl)
noncomputable def ferry_ready_Table_leave_1 (G:GV) (call:CV) (x0:V) (x1:V):M R :=
 (M.ret (V.bool false)).bind fun aA =>
 (M.ret x0).bind fun aB =>
 (load1 x1).bind fun aC =>
 (M.lift ((eqV (.sc .int) false aB aC).bind fun b => some (.bool b))).bind fun aD =>
 (M.ret aD).bind fun aE =>
 M.ret (Ex.ret,[aE])
theorem ferry_ready_Table_leave_1_eq (G:GV) (n:Nat) (x0:V) (x1:V):sem (cfg G) (n + 1) 196 [x0,x1] = outV (ferry_ready_Table_leave_1 G (sem (cfg G) n) x0 x1) :=
 (fnV_at (C:=cfg G) (n:=n) (f:=196) (fn:=Tryz.f196) (c:=Tryz.f196.body.getD .skip) (by kernel_rfl) (by kernel_rfl) (by kernel_rfl) [x0,x1]).trans (by kernel_rfl)
noncomputable def ferry_ready_Table_leave (G:GV) (call:CV) (x0:V) (x1:V):M R :=
 (newV x1).bind fun aA =>
 (M.ret x0).bind fun aB =>
 (M.ret x0).bind fun aC =>
 (M.lift (nilCheckV aC)).bind fun aD =>
 (M.lift (padd 1 aD)).bind fun aE =>
 (load1 aE).bind fun aF =>
 (M.ret (V.fn 196 [aA])).bind fun aG =>
 (callV (cfg G) call 195 [aF,aG]).bind fun aH =>
 (M.lift (nilCheckV aB)).bind fun aI =>
 (M.lift (padd 1 aI)).bind fun aJ =>
 (storeN 1 aJ aH).bind fun _ =>
 M.ret (Ex.ret,[V.tuple []])
theorem ferry_ready_Table_leave_eq (G:GV) (n:Nat) (x0:V) (x1:V):sem (cfg G) (n + 1) 134 [x0,x1] = outV (ferry_ready_Table_leave G (sem (cfg G) n) x0 x1) :=
 (fnV_at (C:=cfg G) (n:=n) (f:=134) (fn:=Tryz.f134) (c:=Tryz.f134.body.getD .skip) (by kernel_rfl) (by kernel_rfl) (by kernel_rfl) [x0,x1]).trans (by kernel_rfl)
noncomputable def slices_IndexFunc_ferry_api_Timer_ferry_api_Timer_l1 (G:GV) (call:CV) (aA:V) (x1:V) (x0:V) (aB:List V):M R :=
 (M.lift (arithV .lss (aB.getD 1 V.undef) aA)).bind fun aC =>
 (condV aC
 ((M.ret (aB.getD 1 V.undef)).bind fun aD =>
 (M.ret aD).bind fun aE =>
 (M.ret x1).bind fun aF =>
 (M.ret x0).bind fun aG =>
 (M.ret aE).bind fun aH =>
 (M.lift (idxV 2 aG aH)).bind fun aI =>
 (loadN 2 aI).bind fun aJ =>
 (callFn (cfg G) call aF [aJ]).bind fun aK =>
 (condV aK
 ((M.ret aE).bind fun aL =>
 (M.ret aL).bind fun aM =>
 M.ret (Ex.ret,[aM,(aB.getD 1 V.undef)]))
 ((M.lift (arithV .add (aB.getD 1 V.undef) (V.int .i64 1))).bind fun aN =>
 (M.ret aN).bind fun aO =>
 M.ret (Ex.normal,[(aB.getD 0 V.undef),aO]))))
 (M.ret ((Ex.exit 0),[(aB.getD 0 V.undef),(aB.getD 1 V.undef)])))
noncomputable def slices_IndexFunc_ferry_api_Timer_ferry_api_Timer (G:GV) (call:CV) (x0:V) (x1:V):M R :=
 (M.ret (V.int .i64 0)).bind fun aA =>
 (M.ret x0).bind fun aB =>
 (M.lift (lenV aB)).bind fun aC =>
 (M.ret (V.int .i64 0)).bind fun aD =>
 (loopV (slices_IndexFunc_ferry_api_Timer_ferry_api_Timer_l1 G call aC x1 x0) [aA,aD]).bind fun aE => match aE.1 with
 | .normal => M.fail
 | .exit k0_20 =>
 (if k0_20 = 0 then
 (M.ret (V.int .i64 (-1))).bind fun aF =>
 M.ret (Ex.ret,[aF])
 else M.fail)
 | .ret =>
 M.ret (Ex.ret,[(aE.2.getD 0 V.undef)])
theorem slices_IndexFunc_ferry_api_Timer_ferry_api_Timer_eq (G:GV) (n:Nat) (x0:V) (x1:V):sem (cfg G) (n + 1) 241 [x0,x1] = outV (slices_IndexFunc_ferry_api_Timer_ferry_api_Timer G (sem (cfg G) n) x0 x1) :=
 (fnV_at (C:=cfg G) (n:=n) (f:=241) (fn:=Tryz.f241) (c:=Tryz.f241.body.getD .skip) (by kernel_rfl) (by kernel_rfl) (by kernel_rfl) [x0,x1]).trans (by kernel_rfl)
noncomputable def slices_DeleteFunc_ferry_api_Timer_ferry_api_Timer_j1 (G:GV) (call:CV) (aA:List V) (aB:V):M R :=
 (M.ret (aA.getD 1 V.undef)).bind fun aC =>
 (M.lift (arithV .add aC (V.int .i64 1))).bind fun aD =>
 (M.ret aD).bind fun aE =>
 M.ret (Ex.normal,[aB,aE])
noncomputable def slices_DeleteFunc_ferry_api_Timer_ferry_api_Timer_l1 (G:GV) (call:CV) (x0:V) (x1:V) (aA:List V):M R :=
 (M.ret (aA.getD 1 V.undef)).bind fun aB =>
 (M.ret x0).bind fun aC =>
 (M.lift (lenV aC)).bind fun aD =>
 (M.lift (arithV .lss aB aD)).bind fun aE =>
 (condV aE
 ((M.ret x0).bind fun aF =>
 (M.ret (aA.getD 1 V.undef)).bind fun aG =>
 (M.lift (idxV 2 aF aG)).bind fun aH =>
 (loadN 2 aH).bind fun aI =>
 (newV (.agg [(V.int .i64 0),(V.int .i64 0)])).bind fun aJ =>
 (storeN 2 aJ aI).bind fun _ =>
 (M.ret x1).bind fun aK =>
 (loadN 2 aJ).bind fun aL =>
 (callFn (cfg G) call aK [aL]).bind fun aM =>
 (M.lift (unV .not aM)).bind fun aN =>
 (condV aN
 ((M.ret x0).bind fun aO =>
 (M.ret (aA.getD 0 V.undef)).bind fun aP =>
 (loadN 2 aJ).bind fun aQ =>
 (M.lift (idxV 2 aO aP)).bind fun aR =>
 (storeN 2 aR aQ).bind fun _ =>
 (M.ret (aA.getD 0 V.undef)).bind fun aS =>
 (M.lift (arithV .add aS (V.int .i64 1))).bind fun aT =>
 (M.ret aT).bind fun aU =>
 slices_DeleteFunc_ferry_api_Timer_ferry_api_Timer_j1 G call aA aU)
 (slices_DeleteFunc_ferry_api_Timer_ferry_api_Timer_j1 G call aA (aA.getD 0 V.undef))))
 (M.ret ((Ex.exit 0),[(aA.getD 0 V.undef),(aA.getD 1 V.undef)])))
noncomputable def slices_DeleteFunc_ferry_api_Timer_ferry_api_Timer (G:GV) (call:CV) (x0:V) (x1:V):M R :=
 (M.ret V.nils).bind fun aA =>
 (M.ret x0).bind fun aB =>
 (M.ret x1).bind fun aC =>
 (callV (cfg G) call 241 [aB,aC]).bind fun aD =>
 (M.ret aD).bind fun aE =>
 (M.ret aE).bind fun aF =>
 (M.lift ((eqV (.sc .int) true aF (V.int .i64 (-1))).bind fun b => some (.bool b))).bind fun aG =>
 (condV aG
 ((M.ret x0).bind fun aH =>
 (M.ret aH).bind fun aI =>
 M.ret (Ex.ret,[aI]))
 ((M.ret aE).bind fun aJ =>
 (M.lift (arithV .add aJ (V.int .i64 1))).bind fun aK =>
 (M.ret aK).bind fun aL =>
 (loopV (slices_DeleteFunc_ferry_api_Timer_ferry_api_Timer_l1 G call x0 x1) [aE,aL]).bind fun aM => match aM.1 with
 | .normal => M.fail
 | .exit k0_45 =>
 (if k0_45 = 0 then
 (M.ret x0).bind fun aN =>
 (M.ret (aM.2.getD 0 V.undef)).bind fun aO =>
 (M.lift (slV 2 aN (some aO) none none)).bind fun aP =>
 (clearV 2 [(V.int .i64 0),(V.int .i64 0)] aP).bind fun _ =>
 (M.ret x0).bind fun aQ =>
 (M.ret (aM.2.getD 0 V.undef)).bind fun aR =>
 (M.lift (slV 2 aQ none (some aR) none)).bind fun aS =>
 (M.ret aS).bind fun aT =>
 M.ret (Ex.ret,[aT])
 else M.fail)
 | .ret =>
 M.ret (Ex.ret,[aA])))
theorem slices_DeleteFunc_ferry_api_Timer_ferry_api_Timer_eq (G:GV) (n:Nat) (x0:V) (x1:V):sem (cfg G) (n + 1) 206 [x0,x1] = outV (slices_DeleteFunc_ferry_api_Timer_ferry_api_Timer G (sem (cfg G) n) x0 x1) :=
 (fnV_at (C:=cfg G) (n:=n) (f:=206) (fn:=Tryz.f206) (c:=Tryz.f206.body.getD .skip) (by kernel_rfl) (by kernel_rfl) (by kernel_rfl) [x0,x1]).trans (by kernel_rfl)
noncomputable def ferry_ready_Table_wake_1 (G:GV) (call:CV) (x0:V) (x1:V):M R :=
 (newV x0).bind fun aA =>
 (M.ret (V.bool false)).bind fun aB =>
 (M.lift (padd 0 aA)).bind fun aC =>
 (load1 aC).bind fun aD =>
 (load1 x1).bind fun aE =>
 (M.lift ((eqV (.sc .int) false aD aE).bind fun b => some (.bool b))).bind fun aF =>
 (M.ret aF).bind fun aG =>
 M.ret (Ex.ret,[aG])
theorem ferry_ready_Table_wake_1_eq (G:GV) (n:Nat) (x0:V) (x1:V):sem (cfg G) (n + 1) 207 [x0,x1] = outV (ferry_ready_Table_wake_1 G (sem (cfg G) n) x0 x1) :=
 (fnV_at (C:=cfg G) (n:=n) (f:=207) (fn:=Tryz.f207) (c:=Tryz.f207.body.getD .skip) (by kernel_rfl) (by kernel_rfl) (by kernel_rfl) [x0,x1]).trans (by kernel_rfl)
noncomputable def ferry_timer_without_1 (G:GV) (call:CV) (x0:V) (x1:V):M R :=
 (newV x0).bind fun aA =>
 (M.ret (V.bool false)).bind fun aB =>
 (M.lift (padd 0 aA)).bind fun aC =>
 (load1 aC).bind fun aD =>
 (load1 x1).bind fun aE =>
 (M.lift ((eqV (.sc .int) false aD aE).bind fun b => some (.bool b))).bind fun aF =>
 (M.ret aF).bind fun aG =>
 M.ret (Ex.ret,[aG])
theorem ferry_timer_without_1_eq (G:GV) (n:Nat) (x0:V) (x1:V):sem (cfg G) (n + 1) 236 [x0,x1] = outV (ferry_timer_without_1 G (sem (cfg G) n) x0 x1) :=
 (fnV_at (C:=cfg G) (n:=n) (f:=236) (fn:=Tryz.f236) (c:=Tryz.f236.body.getD .skip) (by kernel_rfl) (by kernel_rfl) (by kernel_rfl) [x0,x1]).trans (by kernel_rfl)
end Go.Fv.Tr
namespace Go.Fv.Pl
def wakeP (r1:Int) (p:Pr):Pr:={ p with regs:=p.regs.set 1 r1,state:=1,wait:=0,obj:=0 }
def setP (ps:List Pr) (n:Int) (f:Pr → Pr):List Pr:=ps.modify n.toNat f
def Tab.wake (t:Tab) (n:Int) (r1:Int):Tab:={ ps:=setP t.ps n (wakeP r1),q:=t.q ++ [n],ts:=t.ts.filter (·.proc ≠ n) }
theorem at?_set {ps:List Pr} {n m:Int} {f:Pr → Pr} (hn:0 ≤ n):at? (setP ps n f) m = if m = n then (at? ps m).map f else at? ps m:=by
 unfold at? setP
 by_cases hm:0 ≤ m
 ·simp only [hm,if_true,List.getElem?_modify]
  by_cases e:m = n
  ·subst e; simp
  ·have:n.toNat ≠ m.toNat:=by omega
   rw [if_neg e]; simp [this]
 ·simp only [hm,if_false]
  by_cases e:m = n
  ·subst e; exact absurd hn hm
  ·rw [if_neg e]
theorem setP_len (ps:List Pr) (n:Int) (f:Pr → Pr):(setP ps n f).length = ps.length:=by simp [setP]
theorem TsOk.filter {n:Int} {l:List Tm} (h:TsOk n l) (f:Tm → Bool):TsOk n (l.filter f):=by
 rw [TsOk_iff] at h ⊢
 exact ⟨fun t ht => h.1 t (List.mem_filter.1 ht).1,List.Nodup.sublist (List.filter_sublist.map _) h.2.1,List.Pairwise.sublist List.filter_sublist h.2.2⟩
theorem timed_filter {l:List Tm} {n m:Int}:timed (l.filter (·.proc ≠ n)) m ↔ timed l m ∧ m ≠ n:=by
 unfold timed
 simp only [List.mem_map,List.mem_filter,decide_eq_true_eq]
 constructor
 ·rintro ⟨a,⟨h1,h2⟩,rfl⟩; exact ⟨⟨a,h1,rfl⟩,h2⟩
 ·rintro ⟨⟨a,h1,rfl⟩,h2⟩; exact ⟨a,⟨h1,h2⟩,rfl⟩
theorem TabOk.at {t:Tab} (h:TabOk t) {n:Int} {p:Pr} (hp:at? t.ps n = some p):RowOk t.ts n p:=by
 obtain ⟨h0,h1⟩:=at?_some.1 hp
 have:=h.ps n.toNat p h1
 rwa [show ((n.toNat:Nat):Int) = n by omega] at this
theorem TabOk_of {t:Tab} (few:t.ps.length ≤ 8) (ts:TsOk t.ps.length t.ts) (ps:∀ n p,at? t.ps n = some p → RowOk t.ts n p) (q:QOk t.ps t.q):TabOk t :=
 ⟨few,ts,fun i p hp => ps i p (by rw [at?_nat]; exact hp),q⟩
theorem wakeP_ok {r1:Int} {p:Pr} (h:PrOk p):PrOk (wakeP r1 p):=by
 obtain ⟨g1,g2,g3,g4,g5,g6,g7⟩:=h
 refine ⟨?_,by simp [wakeP],g3,by simp [wakeP],by simp [wakeP],by simp [wakeP],.inl rfl⟩
 simp only [wakeP,List.getElem?_set]
 simpa using g1
theorem TabOk.wake {t:Tab} (h:TabOk t) {n:Int} {p:Pr} (hp:at? t.ps n = some p) (hs:p.state = 2) (r1:Int):TabOk (t.wake n r1):=by
 have h0:=(at?_lt hp).1
 have hnq:n ∉ t.q:=fun hm => by
  have:=h.q.1 n hm
  unfold isReady at this
  rw [hp] at this
  simp [hs] at this
 refine TabOk_of (by rw [Tab.wake,setP_len]; exact h.few) (by rw [Tab.wake,setP_len]; exact h.ts.filter _) (fun m q hq => ?_) ⟨fun m hm => ?_,?_,fun i hi hr => ?_⟩
 ·simp only [Tab.wake] at hq ⊢
  rw [at?_set h0] at hq
  by_cases e:m = n
  ·subst e
   rw [if_pos rfl,hp] at hq
   cases hq
   exact ⟨wakeP_ok (h.at hp).1,fun ht => absurd rfl (timed_filter.1 ht).2,fun _ => by simp [wakeP]⟩
  ·rw [if_neg e] at hq
   have:=h.at hq
   refine ⟨this.1,fun ht => this.2.1 (timed_filter.1 ht).1,fun ht => this.2.2 fun g => ht (timed_filter.2 ⟨g,e⟩)⟩
 ·simp only [Tab.wake] at hm ⊢
  unfold isReady
  rw [at?_set h0]
  rcases List.mem_append.1 hm with g | g
  ·rw [if_neg (by rintro rfl; exact hnq g)]
   exact h.q.1 m g
  ·rw [List.mem_singleton] at g
   subst g
   rw [if_pos rfl,hp]
   rfl
 ·simp only [Tab.wake]
  rw [List.nodup_append]
  refine ⟨h.q.2.1,by simp,fun a ha b hb => ?_⟩
  rw [List.mem_singleton] at hb
  subst hb
  rintro rfl
  exact hnq ha
 ·simp only [Tab.wake] at hi hr ⊢
  rw [setP_len] at hi
  by_cases e:((i:Nat):Int) = n
  ·exact List.mem_append.2 (.inr (by simp [e]))
  ·refine List.mem_append.2 (.inl (h.q.2.2 i hi ?_))
   unfold isReady at hr ⊢
   rwa [at?_set h0,if_neg e] at hr
def Tab.wakes (t:Tab) (r:Pr → Int):List Int → Tab
 | [] => t
 | n :: l => (t.wake n (((at? t.ps n).map r).getD 0)).wakes r l
theorem wakes_at {r : Pr → Int} : ∀ {l : List Int} {t : Tab} {m : Int}, (∀ n ∈ l, 0 ≤ n) → m ∉ l → at? (t.wakes r l).ps m = at? t.ps m
  | [],t,m,_,_ => rfl
  | n :: l, t, m, h0, h => by
    have:m ≠ n:=fun e => h (by simp [e])
    rw [Tab.wakes,wakes_at (fun a ha => h0 a (by simp [ha])) (fun g => h (by simp [g]))]
    rw [Tab.wake,at?_set (h0 n (by simp)),if_neg this]
theorem TabOk.wakes {r : Pr → Int} : ∀ {l : List Int} {t : Tab}, TabOk t → l.Nodup → (∀ n ∈ l, (at? t.ps n).map Pr.state = some 2) → TabOk (t.wakes r l)
  | [],t,h,_,_ => h
  | n :: l, t, h, hn, hs => by
    obtain ⟨p,hp,hs2⟩:=Option.map_eq_some_iff.1 (hs n (by simp))
    refine (h.wake hp hs2 _).wakes (List.nodup_cons.1 hn).2 fun m hm => ?_
    have:m ≠ n:=by rintro rfl; exact (List.nodup_cons.1 hn).1 hm
    rw [Tab.wake,at?_set (at?_lt hp).1,if_neg this]
    exact hs m (by simp [hm])
end Go.Fv.Pl
