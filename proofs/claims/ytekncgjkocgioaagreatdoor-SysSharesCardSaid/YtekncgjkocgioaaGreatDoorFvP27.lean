/-
  What the functions of the layer 8 answer that make lists. By an AI agent; no person has read it.
-/
import Derived.Test.YtekncgjkocgioaaGreatDoorFvP26
set_option linter.unusedVariables false
set_option linter.unusedSimpArgs false
set_option linter.unusedSectionVars false
/-! What the functions of the layer 8 answer that make lists. -/
namespace Go.Fv.Tr
open Go Go.Fv Go.Fv.Pl Go.Proofs
variable {G:GV}
theorem without1_spec (n:Nat) (t:Tm) (p:Int):callV (cfg G) (sem (cfg G) (n + 1)) 236 [.agg (tmRow t),.iptr [.int .i64 p] 0] = M.ret (.bool (decide (t.proc = p))):=by
 refine callV_pure0 rfl rfl rfl ?_
 rw [ferry_timer_without_1_eq]
 simp only [ferry_timer_without_1,tmRow]
 (repeat' (first | (simp only [wp,extractV,w0,reduceIte,Nat.reduceAdd,Nat.reduceLT,Nat.reduceLeDiff,Nat.reduceEqDiff]) | (with_reducible ((first | apply xC | apply xG | apply xQ) <;> intro hb <;> try simp only [hb]))))
 all_goals ((try simp only [decide_eq_true_eq,decide_eq_false_iff_not,beq_iff_eq,beq_eq_false_iff_ne,ne_eq,bne_iff_ne,nbeq_e,Bool.true_eq_false,Bool.false_eq_true,iff_false,iff_true,Bool.not_eq_true',Bool.not_eq_false'] at *); refine boolI ?_; (try simp only [decide_eq_true_eq,decide_eq_false_iff_not,beq_iff_eq,beq_eq_false_iff_ne,ne_eq,bne_iff_ne,nbeq_e,Bool.true_eq_false,Bool.false_eq_true,iff_false,iff_true,Bool.not_eq_true',Bool.not_eq_false',true_iff,false_iff]); (try unfold right); (try omega))
theorem wake1_spec (n:Nat) (t:Tm) (p:Int):callV (cfg G) (sem (cfg G) (n + 1)) 207 [.agg (tmRow t),.iptr [.int .i64 p] 0] = M.ret (.bool (decide (t.proc = p))):=by
 refine callV_pure0 rfl rfl rfl ?_
 rw [ferry_ready_Table_wake_1_eq]
 simp only [ferry_ready_Table_wake_1,tmRow]
 (repeat' (first | (simp only [wp,extractV,w0,reduceIte,Nat.reduceAdd,Nat.reduceLT,Nat.reduceLeDiff,Nat.reduceEqDiff]) | (with_reducible ((first | apply xC | apply xG | apply xQ) <;> intro hb <;> try simp only [hb]))))
 all_goals ((try simp only [decide_eq_true_eq,decide_eq_false_iff_not,beq_iff_eq,beq_eq_false_iff_ne,ne_eq,bne_iff_ne,nbeq_e,Bool.true_eq_false,Bool.false_eq_true,iff_false,iff_true,Bool.not_eq_true',Bool.not_eq_false'] at *); refine boolI ?_; (try simp only [decide_eq_true_eq,decide_eq_false_iff_not,beq_iff_eq,beq_eq_false_iff_ne,ne_eq,bne_iff_ne,nbeq_e,Bool.true_eq_false,Bool.false_eq_true,iff_false,iff_true,Bool.not_eq_true',Bool.not_eq_false',true_iff,false_iff]); (try unfold right); (try omega))
theorem without_asks (n c:Nat) (p:Int):Asks G (n + 1) (.fn 236 [.ptr c 0 0]) c ⟨1,[[.int .i64 p]]⟩ (fun a => V.agg (tmRow a)) (fun a => decide (a.proc = p)):=by
 intro H a Q hc
 show Run (callV (cfg G) (sem (cfg G) (n + 1)) 236 ([.agg (tmRow a)] ++ [.ptr c 0 0])) H Q ↔ _
 exact Run.callRef (bs:=[.agg (tmRow a),.iptr [.int .i64 p] 0]) rfl (by simp [thawV,thaw,hc,V.flat,tmRow]) rfl (without1_spec n a p) rfl
theorem wake_asks (n c:Nat) (p:Int):Asks G (n + 1) (.fn 207 [.ptr c 0 0]) c ⟨1,[[.int .i64 p]]⟩ (fun a => V.agg (tmRow a)) (fun a => decide (a.proc = p)):=by
 intro H a Q hc
 show Run (callV (cfg G) (sem (cfg G) (n + 1)) 207 ([.agg (tmRow a)] ++ [.ptr c 0 0])) H Q ↔ _
 exact Run.callRef (bs:=[.agg (tmRow a),.iptr [.int .i64 p] 0]) rfl (by simp [thawV,thaw,hc,V.flat,tmRow]) rfl (wake1_spec n a p) rfl
theorem indexF_tm (n:Nat) {F:V} {c:Nat} {cb:Blk} {f:Tm → Bool} (hF:Asks G n F c cb (fun a => V.agg (tmRow a)) f) {x:V} {l:List Tm} {H:Heap} (hx:Own H x 2 (l.map tmRow)) (hc:H.blk c = some cb) (hl:l.length ≤ big) {Q:V → Heap → Prop} (q:Q (.int .i64 (idxF f l 0)) H) :
  Run (callV (cfg G) (sem (cfg G) (n + 1)) 241 [x,F]) H Q:=by
 rw [callV_inl rfl,slices_IndexFunc_ferry_api_Timer_ferry_api_Timer_eq]
 simp only [slices_IndexFunc_ferry_api_Timer_ferry_api_Timer]
 (repeat' (first | (simp only [wp,extractV,w0,reduceIte,Nat.reduceAdd,Nat.reduceLT,Nat.reduceLeDiff,Nat.reduceEqDiff,hx.len,List.length_map]) | (with_reducible ((first | apply xC | apply xG | apply xQ) <;> intro hb <;> try simp only [hb]))))
 refine Run.loop (N:=l.length) (fun i s H' => s = [.int .i64 0,.int .i64 (i:Nat)] ∧ H' = H ∧ idxF f l 0 = idxF f (l.drop i) i) ⟨rfl,rfl,rfl⟩ ?_
 rintro i s H hi ⟨rfl,rfl,hd⟩
 by_cases hlt:i < l.length
 ·obtain ⟨k,b,hk,h2,h3,h4,h5⟩:=hx.idx (k:=.i64) (i:=i) (by simpa using hlt)
  simp only [List.getElem_map] at h4
  rw [List.drop_eq_getElem_cons hlt,idxF] at hd
  simp only [slices_IndexFunc_ferry_api_Timer_ferry_api_Timer_l1]
  (repeat' (first | (simp only [wp,extractV,w0,reduceIte,Nat.reduceAdd,Nat.reduceLT,Nat.reduceLeDiff,Nat.reduceEqDiff,ltT hlt,h2,h3,h4,addN hlt hl,tm_len,tm_take,tm_drop]) | (with_reducible ((first | apply xC | apply xG | apply xQ) <;> intro hb <;> try simp only [hb]))))
  refine (hF _ _ _ hc).2 ?_
  (repeat' (first | (simp only [wp,extractV,w0,reduceIte,Nat.reduceAdd,Nat.reduceLT,Nat.reduceLeDiff,Nat.reduceEqDiff]) | (with_reducible ((first | apply xC | apply xG | apply xQ) <;> intro hb <;> try simp only [hb]))))
  ·rw [hd,if_pos hb] at q
   exact q
  ·rw [if_neg (by rw [hb]; exact Bool.false_ne_true)] at hd
   exact ⟨hlt,hd⟩
 ·simp only [slices_IndexFunc_ferry_api_Timer_ferry_api_Timer_l1]
  (repeat' (first | (simp only [wp,extractV,w0,reduceIte,Nat.reduceAdd,Nat.reduceLT,Nat.reduceLeDiff,Nat.reduceEqDiff,ltF hlt]) | (with_reducible ((first | apply xC | apply xG | apply xQ) <;> intro hb <;> try simp only [hb]))))
  rw [List.drop_of_length_le (by omega)] at hd
  rw [hd] at q
  exact q
theorem deleteF_tm (n : Nat) {F : V} {c : Nat} {cb : Blk} {f : Tm → Bool} (hF : ∀ m, Asks G (n + m) F c cb (fun a => V.agg (tmRow a)) f) {x : V} {l : List Tm} {H : Heap} (hx : Own H x 2 (l.map tmRow)) (hc : H.blk c = some cb) (hcx : loc x ≠ some c) (hcl : c < H.next) (hl : l.length < big) :
    Run (callV (cfg G) (sem (cfg G) (n + 2)) 206 [x,F]) H fun y H' => Own H' y 2 ((l.filter fun a => !f a).map tmRow) ∧ Frame H H' (fun k => loc x = some k) ∧ ∀ k,loc y = some k → loc x = some k:=by
  rw [callV_inl rfl,slices_DeleteFunc_ferry_api_Timer_ferry_api_Timer_eq]
  simp only [slices_DeleteFunc_ferry_api_Timer_ferry_api_Timer]
  (repeat' (first | (simp only [wp,extractV,w0,reduceIte,Nat.reduceAdd,Nat.reduceLT,Nat.reduceLeDiff,Nat.reduceEqDiff]) | (with_reducible ((first | apply xC | apply xG | apply xQ) <;> intro hb <;> try simp only [hb]))))
  refine indexF_tm n (hF 0) hx hc (Nat.le_of_lt hl) ?_
  rcases idxF_cases f l 0 with ⟨e,hn⟩ | ⟨i0,hi0,e,hfi,hn⟩
  · rw [e]
    (repeat' (first | (simp only [wp,extractV,w0,reduceIte,Nat.reduceAdd,Nat.reduceLT,Nat.reduceLeDiff,Nat.reduceEqDiff,beq_self_eq_true]) | (with_reducible ((first | apply xC | apply xG | apply xQ) <;> intro hb <;> try simp only [hb]))))
    rw [List.filter_eq_self.2 fun a ha => by simp [hn a ha]]
    exact ⟨hx,Frame.refl _ _,fun _ h => h⟩
  · rw [e, Nat.zero_add]
    have hne : (((i0 : Nat) : Int) == -1) = false := by
      rw [beq_eq_false_iff_ne]; omega
    rcases hx with ⟨_,hnil⟩ | ⟨lx,nx,cx,ex,b,rfl,hb,hfl,hlx,hnc,hcb,hrows⟩
    · rw [List.map_eq_nil_iff] at hnil; subst hnil; simp at hi0
    · have hnx : nx = l.length := by
        have:=congrArg List.length hrows
        rw [List.length_take,List.length_map] at this
        omega
      subst hnx
      have hclx:c ≠ lx:=fun e => hcx (by rw [e]; rfl)
      (repeat' (first | (simp only [wp,extractV,w0,reduceIte,Nat.reduceAdd,Nat.reduceLT,Nat.reduceLeDiff,Nat.reduceEqDiff,hne,addN hi0 (Nat.le_of_lt hl)]) | (with_reducible ((first | apply xC | apply xG | apply xQ) <;> intro hb <;> try simp only [hb]))))
      refine Run.loop (N := l.length - (i0 + 1)) (fun r s H' => ∃ j i : Nat, j = i0 + 1 + r ∧ j ≤ l.length ∧ i = ((l.take j).filter fun a => !f a).length ∧ i < j ∧ s = [.int .i64 i, .int .i64 j] ∧ Frame H H' (fun k => k = lx) ∧
        ∃ R,H'.blk lx = some ⟨b.sz,R⟩ ∧ R.length = b.rows.length ∧ R.take i = ((l.take j).filter fun a => !f a).map tmRow ∧ (∀ k a,j ≤ k → l[k]? = some a → R[k]? = some (tmRow a)) ∧ ∀ k,k < l.length → ∃ r,R[k]? = some r ∧ r.length = 2) ?_ ?_
      · have hft : (l.take (i0 + 1)).filter (fun a => !f a) = l.take i0 := by
          rw [take_snoc hi0,List.filter_append,List.filter_eq_self.2 fun a ha => by simp [hn a ha],List.filter_cons_of_neg (by simp [hfi]),List.filter_nil,List.append_nil]
        have hget : ∀ k a, l[k]? = some a → b.rows[k]? = some (tmRow a) := fun k a ha => by
          have hk:=(List.getElem?_eq_some_iff.1 ha).1
          rw [← List.getElem?_take_of_lt hk,hrows,List.getElem?_map,ha]; rfl
        refine ⟨i0 + 1,i0,rfl,by omega,by rw [hft,List.length_take]; omega,by omega,rfl,Frame.refl _ _,b.rows,hb,rfl,?_,fun k a _ ha => hget k a ha,fun k hk => ⟨_,hget k _ (List.getElem?_eq_getElem hk),rfl⟩⟩
        rw [hft,List.map_take,← hrows,List.take_take,Nat.min_eq_left (by omega)]
      · rintro r s H' hr ⟨j, i, rfl, hjl, hi, hij, rfl, fr, R, hR, hRl, hRt, hRk, hRr⟩
        have hfl':H'.floor ≤ lx:=by rw [fr.floor]; exact hfl
        have hlx':lx < H'.next:=Nat.lt_of_lt_of_le hlx fr.next
        have hc':H'.blk c = some cb:=(fr.old c hcl fun e => hclx e).trans hc
        have hcl':c < H'.next:=Nat.lt_of_lt_of_le hcl fr.next
        have hlen:lenV (.ref lx 2 0 l.length cx ex) = some (.int .i64 (l.length:Int)):=rfl
        by_cases hlt:i0 + 1 + r < l.length
        · have h2 : idxV 2 (.ref lx 2 0 l.length cx ex) (.int .i64 ((i0 + 1 + r : Nat) : Int)) = some (.ptr lx (i0 + 1 + r) 0) := by simp [idxV]; omega
          have h3:idxV 2 (.ref lx 2 0 l.length cx ex) (.int .i64 ((i:Nat):Int)) = some (.ptr lx i 0):=by simp [idxV]; omega
          have h4:=hRk _ _ (Nat.le_refl _) (List.getElem?_eq_getElem hlt)
          obtain ⟨ri,h5,h6⟩:=hRr i (by omega)
          have hd:ri.drop 2 = []:=List.drop_of_length_le (by omega)
          have hle6:2 ≤ ri.length:=by omega
          have n1:¬ lx = H'.next:=by omega
          have n2:¬ c = H'.next:=by omega
          have n3:¬ H'.next = lx:=by omega
          have n4:H'.floor ≤ H'.next:=by omega
          have hfs : (l.take (i0 + 1 + r + 1)).filter (fun a => !f a) = (l.take (i0 + 1 + r)).filter (fun a => !f a) ++ if f l[i0 + 1 + r] then [] else [l[i0 + 1 + r]] := by
            rw [take_snoc hlt,List.filter_append]
            cases hfe:f l[i0 + 1 + r] <;> simp [hfe]
          simp only [slices_DeleteFunc_ferry_api_Timer_ferry_api_Timer_l1,slices_DeleteFunc_ferry_api_Timer_ferry_api_Timer_j1]
          (repeat' (first | (simp only [wp,extractV,w0,reduceIte,Nat.reduceAdd,Nat.reduceLT,Nat.reduceLeDiff,Nat.reduceEqDiff,hlen,ltT hlt,h2,h3,h4,h5,hR,tm_len,tm_take,tm_drop,n1,n2,n3,n4]) | (with_reducible ((first | apply xC | apply xG | apply xQ) <;> intro hb <;> try simp only [hb]))))
          refine (hF 1 _ _ _ (by simp [Heap.set_blk,Heap.add_blk,n2,hc'])).2 ?_
          (repeat' (first | (simp only [wp,extractV,w0,reduceIte,Nat.reduceAdd,Nat.reduceLT,Nat.reduceLeDiff,Nat.reduceEqDiff,hlen,ltT hlt,h2,h3,h4,h5,hR,tm_len,tm_take,tm_drop,n1,n2,n3,n4,hfl',hle6,hd,addN hlt (Nat.le_of_lt hl),addN (show i < l.length by omega) (Nat.le_of_lt hl)]) | (with_reducible ((first | apply xC | apply xG | apply xQ) <;> intro hb <;> try simp only [hb]))))
          · rw [if_pos hb] at hfs
            rw [List.append_nil] at hfs
            refine ⟨by omega,_,_,by omega,by omega,by rw [hfs]; exact hi,by omega,rfl,(fr.trans (Frame.add _ (fun _ => False)) (fun _ _ h => h) (fun _ _ h => h.elim)).trans (Frame.set _ _ (p:=fun k => k = H'.next) rfl) (fun _ _ h => h) (fun k hk e => by have:=fr.next; omega),R,rfl,hRl,by rw [hfs]; exact hRt,fun k a hk ha => hRk k a (by omega) ha,hRr⟩
          · rw [if_neg (by rw [hb]; exact Bool.false_ne_true)] at hfs
            have hlen':((l.take (i0 + 1 + r + 1)).filter fun a => !f a).length = i + 1:=by rw [hfs,List.length_append,← hi]; rfl
            refine ⟨by omega,_,_,by omega,by omega,hlen'.symm,by omega,rfl,((fr.trans (Frame.add _ (fun _ => False)) (fun _ _ h => h) (fun _ _ h => h.elim)).trans (Frame.set _ _ (p:=fun k => k = H'.next) rfl) (fun _ _ h => h) (fun k hk e => by have:=fr.next; omega)).trans (Frame.set _ _ (p:=fun k => k = lx) rfl) (fun _ _ h => h) (fun _ _ h => h),R.set i (tmRow l[i0 + 1 + r]),by simp [Heap.set_blk],by rw [List.length_set]; exact hRl,?_,fun k a hk ha => ?_,fun k hk => ?_⟩
            · have hi':i < (R.set i (tmRow l[i0 + 1 + r])).length:=by rw [List.length_set,hRl]; omega
              rw [take_snoc hi',hfs,List.map_append,List.getElem_set_self]
              congr 1
              rw [← hRt]
              exact List.take_set_of_le (Nat.le_refl _)
            · rw [List.getElem?_set_ne (by omega)]
              exact hRk k a (by omega) ha
            · by_cases e : i = k
              · subst e
                exact ⟨_,List.getElem?_set_self (by rw [hRl]; omega),rfl⟩
              · rw [List.getElem?_set_ne e]
                exact hRr k hk
        · have hje : i0 + 1 + r = l.length := by omega
          have hs1 : slV 2 (.ref lx 2 0 l.length cx ex) (some (.int .i64 ((i : Nat) : Int))) none none = some (.ref lx 2 i (l.length - i) (cx - i) ex) := by
            simp [slV,optNat,natOf]; omega
          have hs2 : slV 2 (.ref lx 2 0 l.length cx ex) none (some (.int .i64 ((i : Nat) : Int))) none = some (.ref lx 2 0 i cx ex) := by
            simp [slV,optNat,natOf]; omega
          simp only [slices_DeleteFunc_ferry_api_Timer_ferry_api_Timer_l1]
          (repeat' (first | (simp only [wp,extractV,w0,reduceIte,Nat.reduceAdd,Nat.reduceLT,Nat.reduceLeDiff,Nat.reduceEqDiff,hlen,ltF hlt,hs1]) | (with_reducible ((first | apply xC | apply xG | apply xQ) <;> intro hb <;> try simp only [hb]))))
          refine Run.clear rfl hfl' hR (by rw [hRl]; omega) ?_
          (repeat' (first | (simp only [wp,extractV,w0,reduceIte,Nat.reduceAdd,Nat.reduceLT,Nat.reduceLeDiff,Nat.reduceEqDiff,hs2]) | (with_reducible ((first | apply xC | apply xG | apply xQ) <;> intro hb <;> try simp only [hb]))))
          rw [List.take_of_length_le (show l.length ≤ i0 + 1 + r by omega)] at hRt
          refine ⟨.inr ⟨lx,i,cx,ex,_,rfl,by rw [Heap.set_blk,if_pos rfl],hfl',hlx',by omega,?_,?_⟩,(fr.mono (fun _ _ e => by rw [e]; rfl)).trans (Frame.set _ _ (p:=fun k => k = lx) rfl) (fun _ _ h => h) (fun _ _ e => by rw [e]; rfl),fun _ h => h⟩
          · simp only [List.length_append,List.length_take,List.length_replicate,List.length_drop]
            omega
          · rw [List.append_assoc,List.take_append_of_le_length (by rw [List.length_take,hRl]; omega),List.take_take,Nat.min_self]
            exact hRt
end Go.Fv.Tr
namespace Go.Fv.Tr
open Go Go.Fv Go.Fv.Pl Go.Proofs
variable {G:GV}
def Says (C:Cfg) (call:CV) (f:FuncId) (bs:List V) (P:V → Prop):Prop:=∀ ok,Run (call f bs) Heap.empty fun v H' => ∃ r,thawV ok H' v = some r ∧ P r
theorem Run.ans {C:Cfg} {call:FuncId → List V → M V} {f:FuncId} {args bs:List V} {P:V → Prop} {H:Heap} {Q:V → Heap → Prop} (hk:C.kind f = .pure) (ha:args.mapM (thawV true H) = some bs)
  (h:Says C call f bs P) (q:∀ r,P r → Q r H):Run (callV C call f args) H Q:=by
 obtain ⟨v,H',e,r,t,p⟩:=h (args.all V.closedV)
 exact ⟨r,H,callV_thaw hk ha ⟨v,H',e,t⟩,q r p⟩
theorem Says.eq {C:Cfg} {call:FuncId → List V → M V} {f:FuncId} {bs:List V} {P:V → Prop} (hk:C.kind f = .pure) (hb:bs.all V.closedV = true) (h:Says C call f bs P):∃ r,callV C call f bs = M.ret r ∧ P r :=
 callV_pureE hk hb (h true)
theorem _root_.Go.Fv.Own.thawV {H:Heap} {x:V} {sz:Nat} {rows:List (List V)} (h:Own H x sz rows) (hf:flatRows rows = true) (ok:Bool):∃ y,Fv.thawV ok H x = some y ∧ thaw2 ok H x = some y ∧ Sls y sz rows:=by
 obtain ⟨y,e,s⟩:=h.thaw hf ok
 refine ⟨y,?_,?_,s⟩
 ·rcases h with ⟨rfl | rfl,_⟩ | ⟨l,n,c,ex,b,rfl,_⟩ <;> exact e
 ·rcases h with ⟨rfl | rfl,_⟩ | ⟨l,n,c,ex,b,rfl,_⟩ <;> exact e
theorem thaw2_nili (ok:Bool) (H:Heap):thaw2 ok H .nili = some .nili:=by simp [thaw2,thaw,V.flat]
theorem thaw2_nils (ok:Bool) (H:Heap):thaw2 ok H .nils = some .nils:=by simp [thaw2,thaw,V.flat]
theorem thaw2_err (ok:Bool) (H:Heap) (g:Nat):thaw2 ok H (errV g) = some (errV g):=by simp [thaw2,thaw,V.flat,errV]
theorem thawV_tup {ok:Bool} {H:Heap} {l l':List V} (h:l.mapM (thaw2 ok H) = some l'):thawV ok H (.tuple l) = some (.tuple l'):=by simp [thawV,h]
theorem mapM2 {ok:Bool} {H:Heap} {a b a' b':V} (ha:thaw2 ok H a = some a') (hb:thaw2 ok H b = some b'):[a,b].mapM (thaw2 ok H) = some [a',b']:=by simp [ha,hb]
structure TErrs (G:GV):Prop where
 state:G 2 = some [errV 2]
 arg:G 0 = some [errV 0]
 range:G 6 = some [errV 6]
structure SErrs (G:GV):Prop where
 state:G 2 = some [errV 2]
 arg:G 0 = some [errV 0]
theorem TErrs.s (h:TErrs G):SErrs G:=⟨h.state,h.arg⟩
theorem Errs.s (h:Errs G):SErrs G:=⟨h.state,h.arg⟩
theorem ts_len {n:Int} {k:Nat} (hk:n = k) {ts:List Tm} (h:TsOk n ts):ts.length ≤ k:=by
 have:=nodup_lenI (n:=k) h.nodup (fun x hx => by
  obtain ⟨t,ht,rfl⟩:=List.mem_map.1 hx
  have:=h.mem t ht
  exact ⟨this.1,by rw [← hk]; exact this.2.1⟩)
 simpa using this
def wo (ts:List Tm) (p:Int):List Tm:=ts.filter fun a => !decide (a.proc = p)
theorem without_spec (n:Nat) {x:V} {ts:List Tm} (hx:Sls x 2 (ts.map tmRow)) (hl:ts.length < big) (hr:ts.length * 16 ≤ room) (p:Int) {H:Heap} (hH:H.floor ≤ H.next) :
  Run (callV (cfg G) (sem (cfg G) (n + 4)) 199 [x,.int .i64 p]) H (New H 2 ((wo ts p).map tmRow)):=by
 refine callV_own rfl (mapM_closedV (by simp [hx.closedV,cI]) H) ?_
 rw [ferry_timer_without_eq]
 simp only [ferry_timer_without]
 (repeat' (first | (simp only [wp,extractV,w0,reduceIte,Nat.reduceAdd,Nat.reduceLT,Nat.reduceLeDiff,Nat.reduceEqDiff]) | (with_reducible ((first | apply xC | apply xG | apply xQ) <;> intro hb <;> try simp only [hb]))))
 refine (clone74 _ hx (flat_tm _) (by simpa using hr) (by exact Nat.zero_le _)).mono fun x' H1 ⟨o,f,l⟩ => ?_
 (repeat' (first | (simp only [wp,extractV,w0,reduceIte,Nat.reduceAdd,Nat.reduceLT,Nat.reduceLeDiff,Nat.reduceEqDiff]) | (with_reducible ((first | apply xC | apply xG | apply xQ) <;> intro hb <;> try simp only [hb]))))
 have hc:H1.blk 0 = some ⟨1,[[.int .i64 p]]⟩:=(f.old 0 (by exact Nat.lt_succ_self 0) id).trans (by rw [Heap.add_blk]; exact if_pos rfl)
 have hF:∀ m,Asks G (n + 1 + m) (.fn 236 [.ptr 0 0 0]) 0 ⟨1,[[.int .i64 p]]⟩ (fun a => V.agg (tmRow a)) (fun a => decide (a.proc = p)):=fun m => by
  rw [Nat.add_right_comm]; exact without_asks (n + m) 0 p
 refine (deleteF_tm (n + 1) hF o hc (fun e => by have:=l 0 e; have h1:1 ≤ 0:=this; omega) (Nat.lt_of_lt_of_le (by exact Nat.lt_succ_self 0) f.next) hl).mono fun y H2 ⟨o2,f2,l2⟩ => ?_
 (repeat' (first | (simp only [wp,extractV,w0,reduceIte,Nat.reduceAdd,Nat.reduceLT,Nat.reduceLeDiff,Nat.reduceEqDiff]) | (with_reducible ((first | apply xC | apply xG | apply xQ) <;> intro hb <;> try simp only [hb]))))
 exact o2.hand (flat_tm _) hH
def setT (ts:List Tm) (p d:Int):List Tm:=isort (wo ts p ++ [⟨p,d⟩])
theorem wo_len (ts:List Tm) (p:Int):(wo ts p).length ≤ ts.length:=List.length_filter_le _ _
theorem set_spec (hG:SErrs G) (n:Nat) {x:V} {ts:List Tm} (hx:Sls x 2 (ts.map tmRow)) (hl:ts.length ≤ big) (p d:Int) :
  Says (cfg G) (sem (cfg G) (n + 7)) 136 [x,.int .i64 p,.int .i64 d] fun r =>
   (TsOk 8 ts ∧ right 8 ⟨p,d⟩ ∧ ∃ y,r = .tuple [y,.nili] ∧ Sls y 2 ((setT ts p d).map tmRow)) ∨ (TsOk 8 ts ∧ ¬ right 8 ⟨p,d⟩ ∧ r = .tuple [.nils,errV 0]) ∨ (¬ TsOk 8 ts ∧ r = .tuple [.nils,errV 2]):=by
 intro ok
 rw [ferry_timer_Set_eq]
 simp only [ferry_timer_Set]
 have hg:=good_spec (G:=G) (n + 2) hx hl (k:=8) (Nat.le_refl _)
 by_cases hok:TsOk ((8:Nat):Int) ts
 ·have h8:=ts_len (k:=8) rfl hok
  have hrow:([.int .i64 p,.int .i64 d]:List V) = tmRow ⟨p,d⟩:=rfl
  have hg':callV (cfg G) (sem (cfg G) (n + 2 + 4)) 197 [x,.int .i64 8] = M.ret (.bool true):=by
   have:=hg; rw [decide_eq_true hok] at this; exact this
  by_cases hr:right 8 ⟨p,d⟩
  ·(repeat' (first | (simp only [wp,extractV,w0,reduceIte,Nat.reduceAdd,Nat.reduceLT,Nat.reduceLeDiff,Nat.reduceEqDiff,hg',buildV,fill,putRow,hrow,right_spec,decide_eq_true hr,tm_len,tm_take]) | (with_reducible ((first | apply xC | apply xG | apply xQ) <;> intro hb <;> try simp only [hb]))))
   refine Run.qfresh (by exact Nat.zero_le _) (fun K2 _ hf => without_spec (n + 2) hx (by unfold big; omega) (by unfold room; omega) p hf) fun y H1 o f l => ?_
   have hn1:1 ≤ H1.next:=f.next
   have hb0:H1.blk 0 = some ⟨2,[tmRow ⟨p,d⟩]⟩:=(f.old 0 (by exact Nat.lt_succ_self 0) id).trans (by rw [Heap.set_blk]; exact if_pos rfl)
   have hw:=wo_len ts p
   (repeat' (first | (simp only [wp,extractV,w0,reduceIte,Nat.reduceAdd,Nat.reduceLT,Nat.reduceLeDiff,Nat.reduceEqDiff,hb0,tm_len,tm_take]) | (with_reducible ((first | apply xC | apply xG | apply xQ) <;> intro hb <;> try simp only [hb]))))
   refine (Run.slice (n:=0)).2 ⟨[tmRow ⟨p,d⟩],rfl,?_⟩
   have o2:Own (H1.add ⟨2,[tmRow ⟨p,d⟩]⟩) y 2 ((wo ts p).map tmRow):=o.frame (Frame.add _ (fun _ => False)) fun _ _ h => h
   refine (Run.tapp (items:=[tmRow ⟨p,d⟩]) (by show H1.floor ≤ H1.next + 1; rw [f.floor]; exact Nat.zero_le _) o2 (fun k hk => ?_) ?_ ?_).mono fun x' H3 ⟨o3,_,_⟩ => ?_
   ·have h1:1 ≤ k:=l k hk
    have h2:k < H1.next:=o.lt hk
    simp [visB,Heap.add_next,h1,h2]
   ·simp [itemsV,visB,Heap.add_next,Heap.add_blk]
   ·simp only [List.length_map,List.length_cons,List.length_nil]; unfold room; omega
   ·have o4:Own H3 x' 2 ((wo ts p ++ [(⟨p,d⟩:Tm)]).map tmRow):=by rw [List.map_append]; exact o3
    refine (sortFunc_spec n o4 (by simp; omega)).mono fun _ H4 ⟨o5,_⟩ => ?_
    (repeat' (first | (simp only [wp,extractV,w0,reduceIte,Nat.reduceAdd,Nat.reduceLT,Nat.reduceLeDiff,Nat.reduceEqDiff]) | (with_reducible ((first | apply xC | apply xG | apply xQ) <;> intro hb <;> try simp only [hb]))))
    obtain ⟨w,_,hw2,hs⟩:=o5.thawV (flat_tm _) ok
    exact ⟨_,thawV_tup (mapM2 hw2 (thaw2_nili _ _)),.inl ⟨hok,hr,w,rfl,hs⟩⟩
  ·(repeat' (first | (simp only [wp,extractV,w0,reduceIte,Nat.reduceAdd,Nat.reduceLT,Nat.reduceLeDiff,Nat.reduceEqDiff,hg',buildV,fill,putRow,hrow,right_spec,decide_eq_false hr,tm_len,tm_take,glob_at hG.arg]) | (with_reducible ((first | apply xC | apply xG | apply xQ) <;> intro hb <;> try simp only [hb]))))
   exact ⟨_,thawV_tup (mapM2 (thaw2_nils _ _) (thaw2_err _ _ _)),.inr (.inl ⟨hok,hr,rfl⟩)⟩
 ·have hg':callV (cfg G) (sem (cfg G) (n + 2 + 4)) 197 [x,.int .i64 8] = M.ret (.bool false):=by
   have:=hg; rw [decide_eq_false hok] at this; exact this
  (repeat' (first | (simp only [wp,extractV,w0,reduceIte,Nat.reduceAdd,Nat.reduceLT,Nat.reduceLeDiff,Nat.reduceEqDiff,hg',glob_at hG.state]) | (with_reducible ((first | apply xC | apply xG | apply xQ) <;> intro hb <;> try simp only [hb]))))
  exact ⟨_,thawV_tup (mapM2 (thaw2_nils _ _) (thaw2_err _ _ _)),.inr (.inr ⟨hok,rfl⟩)⟩
end Go.Fv.Tr
namespace Go.Fv.Tr
open Go Go.Fv Go.Fv.Pl Go.Proofs
variable {G:GV}
theorem Frame.loc {H:Heap} (b b':Blk):Frame H ((H.add b).set H.next b') (fun _ => False) :=
 ⟨Nat.le_succ _,rfl,fun l hl _ => by rw [Heap.set_blk,if_neg (by omega),Heap.add_old hl]⟩
end Go.Fv.Tr
namespace Go.Fv.Tr
open Go Go.Fv Go.Proofs
set_option maxRecDepth 20000
noncomputable def ferry_ready_Waiters_l1 (G:GV) (call:CV) (aA:V) (aB:V) (x1:V) (x2:V) (aC:List V):M R :=
 (M.lift (arithV .lss (aC.getD 1 V.undef) aA)).bind fun aD =>
 (condV aD
 ((M.ret (aC.getD 1 V.undef)).bind fun aE =>
 (M.lift (idxV 21 aB (aC.getD 1 V.undef))).bind fun aF =>
 (loadN 21 aF).bind fun aG =>
 (newV (.agg [(V.int .u32 0),(V.int .u32 0),(V.int .u32 0),(V.int .u32 0),(V.int .u32 0),(V.int .u32 0),(V.int .u32 0),(V.int .u32 0),(V.int .u32 0),(V.int .u32 0),(V.int .u32 0),(V.int .u32 0),(V.int .u32 0),(V.int .u32 0),(V.int .u32 0),(V.int .u32 0),(V.int .u32 0),(V.int .i64 0),(V.int .i64 0),(V.int .i64 0),(V.int .i64 0)])).bind fun aH =>
 (M.ret aE).bind fun aI =>
 (storeN 21 aH aG).bind fun _ =>
 (M.lift (padd 17 aH)).bind fun aJ =>
 (load1 aJ).bind fun aK =>
 (M.lift ((eqV (.sc .int) true aK (V.int .i64 2)).bind fun b => some (.bool b))).bind fun aL =>
 (M.ret aL).bind fun aM =>
 (guardV aM true (M.lift (padd 19 aH))).bind fun aN =>
 (guardV aM true (load1 aN)).bind fun aO =>
 (guardV aM true (M.ret x1)).bind fun aP =>
 (guardV aM true (M.lift ((eqV (.sc .int) false aO aP).bind fun b => some (.bool b)))).bind fun aQ =>
 (M.lift (pickV aM aQ (V.bool false))).bind fun aR =>
 (M.ret aR).bind fun aS =>
 (guardV aS true (M.lift (padd 20 aH))).bind fun aT =>
 (guardV aS true (load1 aT)).bind fun aU =>
 (guardV aS true (M.ret x2)).bind fun aV =>
 (guardV aS true (M.lift ((eqV (.sc .int) false aU aV).bind fun b => some (.bool b)))).bind fun aW =>
 (M.lift (pickV aS aW (V.bool false))).bind fun aX =>
 (condV aX
 ((M.ret (aC.getD 0 V.undef)).bind fun aY =>
 (M.ret aI).bind fun aZ =>
 (sliceV 1 1 [(V.int .i64 0)] [(0,aZ)]).bind fun bA =>
 (appV 1 8 aY bA).bind fun bB =>
 (M.ret bB).bind fun bC =>
 (M.lift (arithV .add (aC.getD 1 V.undef) (V.int .i64 1))).bind fun bD =>
 (M.ret bD).bind fun bE =>
 M.ret (Ex.normal,[bC,bE]))
 ((M.lift (arithV .add (aC.getD 1 V.undef) (V.int .i64 1))).bind fun bF =>
 (M.ret bF).bind fun bG =>
 M.ret (Ex.normal,[(aC.getD 0 V.undef),bG]))))
 (M.ret ((Ex.exit 0),[(aC.getD 0 V.undef),(aC.getD 1 V.undef)])))
noncomputable def ferry_ready_Waiters (G:GV) (call:CV) (x0:V) (x1:V) (x2:V):M R :=
 (newV x0).bind fun aA =>
 (M.ret V.nils).bind fun aB =>
 (M.ret V.nils).bind fun aC =>
 (M.lift (padd 0 aA)).bind fun aD =>
 (load1 aD).bind fun aE =>
 (M.lift (lenV aE)).bind fun aF =>
 (M.ret (V.int .i64 0)).bind fun aG =>
 (loopV (ferry_ready_Waiters_l1 G call aF aE x1 x2) [aC,aG]).bind fun aH => match aH.1 with
 | .normal => M.fail
 | .exit k0_47 =>
 (if k0_47 = 0 then
 (M.ret (aH.2.getD 0 V.undef)).bind fun aI =>
 (M.ret aI).bind fun aJ =>
 M.ret (Ex.ret,[aJ])
 else M.fail)
 | .ret =>
 M.ret (Ex.ret,[aB])
theorem ferry_ready_Waiters_eq (G:GV) (n:Nat) (x0:V) (x1:V) (x2:V):sem (cfg G) (n + 1) 139 [x0,x1,x2] = outV (ferry_ready_Waiters G (sem (cfg G) n) x0 x1 x2) :=
 (fnV_at (C:=cfg G) (n:=n) (f:=139) (fn:=Tryz.f139) (c:=Tryz.f139.body.getD .skip) (by kernel_rfl) (by kernel_rfl) (by kernel_rfl) [x0,x1,x2]).trans (by kernel_rfl)
noncomputable def ferry_ready_Best_l1 (G:GV) (call:CV) (aA:V) (aB:V) (aC:V) (aD:List V):M R :=
 (M.lift (arithV .lss (aD.getD 1 V.undef) aA)).bind fun aE =>
 (condV aE
 ((M.lift (idxV 1 aB (aD.getD 1 V.undef))).bind fun aF =>
 (load1 aF).bind fun aG =>
 (M.ret aG).bind fun aH =>
 ((M.lift (padd 0 aC)).bind fun aI =>
 (load1 aI).bind fun aJ =>
 (M.ret aH).bind fun aK =>
 (M.lift (idxV 21 aJ aK)).bind fun aL =>
 (M.lift (padd 18 aL)).bind fun aM =>
 (load1 aM).bind fun aN =>
 (M.lift (padd 0 aC)).bind fun aO =>
 (load1 aO).bind fun aP =>
 (M.ret (aD.getD 0 V.undef)).bind fun aQ =>
 (M.lift (idxV 21 aP aQ)).bind fun aR =>
 (M.lift (padd 18 aR)).bind fun aS =>
 (load1 aS).bind fun aT =>
 (M.lift (arithV .gtr aN aT)).bind fun aU =>
 (condV aU
 ((M.ret aH).bind fun aV =>
 (M.ret aV).bind fun aW =>
 (M.lift (arithV .add (aD.getD 1 V.undef) (V.int .i64 1))).bind fun aX =>
 (M.ret aX).bind fun aY =>
 M.ret (Ex.normal,[aW,aY]))
 ((M.lift (arithV .add (aD.getD 1 V.undef) (V.int .i64 1))).bind fun aZ =>
 (M.ret aZ).bind fun bA =>
 M.ret (Ex.normal,[(aD.getD 0 V.undef),bA])))))
 (M.ret ((Ex.exit 0),[(aD.getD 0 V.undef),(aD.getD 1 V.undef)])))
noncomputable def ferry_ready_Best (G:GV) (call:CV) (x0:V) (x1:V) (x2:V):M R :=
 (newV x0).bind fun aA =>
 (M.ret (V.int .i64 0)).bind fun aB =>
 (M.ret V.nili).bind fun aC =>
 (loadN 3 aA).bind fun aD =>
 (callV (cfg G) call 137 [aD]).bind fun aE =>
 (M.lift (unV .not aE)).bind fun aF =>
 (condV aF
 (((load1 (glob (cfg G) 2)).bind fun aG =>
 (M.ret (V.int .i64 0)).bind fun aH =>
 (M.ret aG).bind fun aI =>
 M.ret (Ex.ret,[V.tuple [aH,aI]])))
 ((loadN 3 aA).bind fun aJ =>
 (M.ret x1).bind fun aK =>
 (M.ret x2).bind fun aL =>
 (callV (cfg G) call 139 [aJ,aK,aL]).bind fun aM =>
 (M.ret aM).bind fun aN =>
 (M.ret aN).bind fun aO =>
 (M.lift (lenV aO)).bind fun aP =>
 (M.lift ((eqV (.sc .int) true aP (V.int .i64 0)).bind fun b => some (.bool b))).bind fun aQ =>
 (condV aQ
 (((load1 (glob (cfg G) 16)).bind fun aR =>
 (M.ret (V.int .i64 0)).bind fun aS =>
 (M.ret aR).bind fun aT =>
 M.ret (Ex.ret,[V.tuple [aS,aT]])))
 ((M.ret aN).bind fun aU =>
 (M.lift (idxV 1 aU (V.int .i64 0))).bind fun aV =>
 (load1 aV).bind fun aW =>
 (M.ret aW).bind fun aX =>
 (M.ret aN).bind fun aY =>
 (M.lift (lenV aY)).bind fun aZ =>
 (M.ret (V.int .i64 0)).bind fun bA =>
 (loopV (ferry_ready_Best_l1 G call aZ aY aA) [aX,bA]).bind fun bB => match bB.1 with
 | .normal => M.fail
 | .exit k0_57 =>
 (if k0_57 = 0 then
 (M.ret (bB.2.getD 0 V.undef)).bind fun bC =>
 (M.ret bC).bind fun bD =>
 (M.ret V.nili).bind fun bE =>
 M.ret (Ex.ret,[V.tuple [bD,bE]])
 else M.fail)
 | .ret =>
 M.ret (Ex.ret,[V.tuple [aB,aC]])))))
theorem ferry_ready_Best_eq (G:GV) (n:Nat) (x0:V) (x1:V) (x2:V):sem (cfg G) (n + 1) 95 [x0,x1,x2] = outV (ferry_ready_Best G (sem (cfg G) n) x0 x1 x2) :=
 (fnV_at (C:=cfg G) (n:=n) (f:=95) (fn:=Tryz.f95) (c:=Tryz.f95.body.getD .skip) (by kernel_rfl) (by kernel_rfl) (by kernel_rfl) [x0,x1,x2]).trans (by kernel_rfl)
end Go.Fv.Tr
