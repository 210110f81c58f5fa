/-
  What Yield answers. By an AI agent; no person has read it.
-/
import Derived.Test.YtekncgjkocgioaaGreatDoorFvP23
set_option linter.unusedVariables false
set_option linter.unusedSimpArgs false
set_option linter.unusedSectionVars false
/-! What Yield answers. -/
namespace Go.Fv.Tr
open Go Go.Fv Go.Fv.Pl Go.Proofs
variable {G:GV}
theorem big_of {t:Tab} (h:TabOk t):t.ps.length ≤ big ∧ t.q.length ≤ big ∧ t.ts.length ≤ big:=by
 have:=((ROk_iff t).2 h).few
 unfold big
 omega
theorem OwnTab.frame {H H':Heap} {x y z:V} {t:Tab} {p:Nat → Prop} (h:OwnTab H x y z t) (f:Frame H H' p) (hp:∀ l,loc x = some l ∨ loc y = some l ∨ loc z = some l → ¬ p l):OwnTab H' x y z t :=
 ⟨h.p.frame f fun l g => hp l (.inl g),h.q.frame f fun l g => hp l (.inr (.inl g)),h.s.frame f fun l g => hp l (.inr (.inr g)),h.pq,h.ps,h.qs⟩
theorem OwnTab.lt {H:Heap} {x y z:V} {t:Tab} (h:OwnTab H x y z t) {l:Nat} (hl:loc x = some l ∨ loc y = some l ∨ loc z = some l):l < H.next:=by
 rcases hl with g | g | g
 ·exact h.p.lt g
 ·exact h.q.lt g
 ·exact h.s.lt g
def Ans (t:Tab) (ok:Prop) (u:Tab) (r:V):Prop :=
 (TabOk t ∧ ok ∧ ∃ a b c,r = .tuple [.agg [a,b,c],.nili] ∧ IsTab a b c u) ∨ (¬ TabOk t ∧ r = badV 2) ∨ (TabOk t ∧ ¬ ok ∧ r = badV 0)
end Go.Fv.Tr
namespace Go.Fv.Tr
open Go Go.Fv Go.Proofs
set_option maxRecDepth 20000
end Go.Fv.Tr
namespace Go.Fv.Tr
open Go Go.Fv Go.Fv.Pl Go.Proofs
variable {G:GV}
instance (t:Tab):Decidable (ROk t):=decidable_of_iff _ (ROk_iff t).symm
end Go.Fv.Tr
namespace Go.Fv.Tr
open Go Go.Fv Go.Fv.Pl Go.Proofs
variable {G:GV}
end Go.Fv.Tr
namespace Go.Fv.Tr
open Go Go.Fv Go.Proofs
set_option maxRecDepth 20000
end Go.Fv.Tr
namespace Go.Fv.Tr
open Go Go.Fv Go.Fv.Pl Go.Proofs
variable {G:GV}
structure AErrs (G:GV):Prop where
 at_:∀ g,isSent g = true → G g = some [errV g]
 hand:G 20 = some []
theorem iface_ptr {t:TypeId} {l i o:Nat}:ifaceV t (.ptr l i o) = some (.iface t (.ptr l i o)):=rfl
def Num (e:V) (c:Int):Prop:=(e = .nili ∧ c = 0) ∨ (e = errV 2 ∧ c = 9) ∨ (e = errV 16 ∧ c = 17) ∨ (e = errV 0 ∧ c = 12) ∨ (e = errV 6 ∧ c = 4)
theorem Num.closed {e:V} {c:Int} (h:Num e c):e.closedV = true:=by
 rcases h with ⟨rfl,_⟩ | ⟨rfl,_⟩ | ⟨rfl,_⟩ | ⟨rfl,_⟩ | ⟨rfl,_⟩ <;> rfl
end Go.Fv.Tr
namespace Go.Fv.Tr
open Go Go.Fv Go.Fv.Pl Go.Proofs
variable {G:GV}
end Go.Fv.Tr
namespace Go.Fv.Tr
open Go Go.Fv Go.Proofs
set_option maxRecDepth 20000
end Go.Fv.Tr
namespace Go.Fv.Pl
def insRev (v:Tm):List Tm → List Tm → List Tm
 | [],B => v :: B
 | s :: r,B => if before v s then insRev v r (s :: B) else (s :: r).reverse ++ v :: B
def ins (P:List Tm) (v:Tm):List Tm:=insRev v P.reverse []
def isort (l:List Tm):List Tm:=l.foldl ins []
theorem insRev_perm (v : Tm) : ∀ (r B : List Tm), (insRev v r B).Perm (v :: (r.reverse ++ B))
  | [],B => .refl _
  | s :: r, B => by
    unfold insRev
    by_cases h:before v s
    · rw [if_pos h]
      refine (insRev_perm v r (s :: B)).trans (.cons _ ?_)
      simp
    · rw [if_neg h]
      exact List.perm_middle
theorem ins_perm (P:List Tm) (v:Tm):(ins P v).Perm (v :: P):=by
 have:=insRev_perm v P.reverse []
 rwa [List.reverse_reverse,List.append_nil] at this
theorem isort_perm' : ∀ (l P : List Tm), (l.foldl ins P).Perm (P ++ l)
  | [],P => by simp
  | v :: l, P => by
    refine (isort_perm' l (ins P v)).trans ?_
    refine ((ins_perm P v).append_right l).trans ?_
    rw [List.cons_append]
    exact List.perm_middle.symm
theorem isort_perm (l:List Tm):(isort l).Perm l:=by
 have:=isort_perm' l []
 rwa [List.nil_append] at this
theorem isort_mem {l:List Tm} {t:Tm}:t ∈ isort l ↔ t ∈ l:=(isort_perm l).mem_iff
theorem before_total {a b:Tm} (h:a.proc ≠ b.proc):before a b ∨ before b a:=by
 unfold before; omega
theorem insRev_sorted (v : Tm) : ∀ (r B : List Tm), (r.reverse ++ B).Pairwise before → (∀ s ∈ r, s.proc ≠ v.proc) → (∀ s ∈ B, before v s) → (insRev v r B).Pairwise before
  | [],B,h,_,hB => List.pairwise_cons.2 ⟨hB,by simpa using h⟩
  | s :: r, B, h, hr, hB => by
    unfold insRev
    by_cases hv:before v s
    · rw [if_pos hv]
      refine insRev_sorted v r (s :: B) (by simpa using h) (fun x hx => hr x (by simp [hx])) fun x hx => ?_
      rcases List.mem_cons.1 hx with rfl | hx
      · exact hv
      · exact hB x hx
    · rw [if_neg hv]
      have hsv:before s v:=(before_total (hr s (by simp))).resolve_right hv
      rw [List.pairwise_append] at h ⊢
      refine ⟨h.1,List.pairwise_cons.2 ⟨hB,h.2.1⟩,fun a ha b hb => ?_⟩
      rcases List.mem_cons.1 hb with rfl | hb
      · rw [List.reverse_cons] at ha
        rcases List.mem_append.1 ha with g | g
        · have : before a s := by
            have h1:=h.1
            rw [List.reverse_cons,List.pairwise_append] at h1
            exact h1.2.2 a g s (by simp)
          exact this.trans hsv
        · rw [List.mem_singleton] at g; subst g; exact hsv
      · exact h.2.2 a ha b hb
theorem isort_sorted : ∀ (l P : List Tm), ((P ++ l).map Tm.proc).Nodup → P.Pairwise before → (l.foldl ins P).Pairwise before
  | [],P,_,h => h
  | v :: l, P, hn, h => by
    have hp:(P ++ v :: l).Perm (ins P v ++ l):=List.perm_middle.trans ((ins_perm P v).append_right l).symm
    refine isort_sorted l (ins P v) (((hp.map Tm.proc).nodup_iff).1 hn) ?_
    refine insRev_sorted v P.reverse [] (by simpa using h) (fun s hs => ?_) (by simp)
    rw [List.mem_reverse] at hs
    rw [List.map_append,List.nodup_append] at hn
    exact hn.2.2 s.proc (List.mem_map.2 ⟨s,hs,rfl⟩) v.proc (by simp)
theorem isort_ok {n:Int} {l:List Tm} (h1:∀ t ∈ l,right n t) (h2:(l.map Tm.proc).Nodup):TsOk n (isort l) :=
 TsOk_iff.2 ⟨fun t ht => h1 t (isort_mem.1 ht),(((isort_perm l).map Tm.proc).nodup_iff).2 h2,isort_sorted l [] (by simpa using h2) .nil⟩
end Go.Fv.Pl
namespace Go.Fv.Tr
open Go Go.Fv Go.Fv.Pl Go.Proofs
variable {G:GV}
def Data (H:Heap) (l:Nat) (b:Blk) (data:List Tm):Prop:=∃ R,H.blk l = some ⟨b.sz,R⟩ ∧ R.length = b.rows.length ∧ R.take data.length = data.map tmRow
theorem Data.row {H:Heap} {l:Nat} {b:Blk} {data:List Tm} {R:List (List V)} (h:R.take data.length = data.map tmRow) {j:Nat} {t:Tm} (hj:data[j]? = some t):R[j]? = some (tmRow t):=by
 have hlt:=(List.getElem?_eq_some_iff.1 hj).1
 rw [← List.getElem?_take_of_lt hlt,h,List.getElem?_map,hj]
 rfl
theorem Data.frame {H H':Heap} {l:Nat} {b:Blk} {data:List Tm} {p:Nat → Prop} (h:Data H l b data) (f:Frame H H' p) (hl:l < H.next) (hp:¬ p l):Data H' l b data:=by
 obtain ⟨R,h1,h2⟩:=h
 exact ⟨R,(f.old l hl hp).trans h1,h2⟩
theorem tm_drop (t:Tm):(tmRow t).drop 2 = []:=rfl
end Go.Fv.Tr
namespace Go.Fv.Tr
open Go Go.Fv Go.Proofs
set_option maxRecDepth 20000
end Go.Fv.Tr
namespace Go.Fv.Tr
open Go Go.Fv Go.Fv.Pl Go.Proofs
variable {G:GV}
theorem wake1_spec (n:Nat) (t:Tm) (p:Int):callV (cfg G) (sem (cfg G) (n + 1)) 207 [.agg (tmRow t),.iptr [.int .i64 p] 0] = M.ret (.bool (decide (t.proc = p))):=by
 refine callV_pure0 rfl rfl rfl ?_
 rw [ferry_ready_Table_wake_1_eq]
 simp only [ferry_ready_Table_wake_1,tmRow]
 (repeat' (first | (simp only [wp,extractV,w0,reduceIte,Nat.reduceAdd,Nat.reduceLT,Nat.reduceLeDiff,Nat.reduceEqDiff]) | (with_reducible ((first | apply xC | apply xG | apply xQ) <;> intro hb <;> try simp only [hb]))))
 all_goals ((try simp only [decide_eq_true_eq,decide_eq_false_iff_not,beq_iff_eq,beq_eq_false_iff_ne,ne_eq,bne_iff_ne,nbeq_e,Bool.true_eq_false,Bool.false_eq_true,iff_false,iff_true,Bool.not_eq_true',Bool.not_eq_false'] at *); refine boolI ?_; (try simp only [decide_eq_true_eq,decide_eq_false_iff_not,beq_iff_eq,beq_eq_false_iff_ne,ne_eq,bne_iff_ne,nbeq_e,Bool.true_eq_false,Bool.false_eq_true,iff_false,iff_true,Bool.not_eq_true',Bool.not_eq_false',true_iff,false_iff]); (try unfold right); (try omega))
theorem wake_asks (n c:Nat) (p:Int):Asks G (n + 1) (.fn 207 [.ptr c 0 0]) c ⟨1,[[.int .i64 p]]⟩ (fun a => V.agg (tmRow a)) (fun a => decide (a.proc = p)):=by
 intro H a Q hc
 show Run (callV (cfg G) (sem (cfg G) (n + 1)) 207 ([.agg (tmRow a)] ++ [.ptr c 0 0])) H Q ↔ _
 exact Run.callRef (bs:=[.agg (tmRow a),.iptr [.int .i64 p] 0]) rfl (by simp [thawV,thaw,hc,V.flat,tmRow]) rfl (wake1_spec n a p) rfl
theorem indexF_tm (n:Nat) {F:V} {c:Nat} {cb:Blk} {f:Tm → Bool} (hF:Asks G n F c cb (fun a => V.agg (tmRow a)) f) {x:V} {l:List Tm} {H:Heap} (hx:Own H x 2 (l.map tmRow)) (hc:H.blk c = some cb) (hl:l.length ≤ big) {Q:V → Heap → Prop} (q:Q (.int .i64 (idxF f l 0)) H) :
  Run (callV (cfg G) (sem (cfg G) (n + 1)) 241 [x,F]) H Q:=by
 rw [callV_inl rfl,slices_IndexFunc_ferry_api_Timer_ferry_api_Timer_eq]
 simp only [slices_IndexFunc_ferry_api_Timer_ferry_api_Timer]
 (repeat' (first | (simp only [wp,extractV,w0,reduceIte,Nat.reduceAdd,Nat.reduceLT,Nat.reduceLeDiff,Nat.reduceEqDiff,hx.len,List.length_map]) | (with_reducible ((first | apply xC | apply xG | apply xQ) <;> intro hb <;> try simp only [hb]))))
 refine Run.loop (N:=l.length) (fun i s H' => s = [.int .i64 0,.int .i64 (i:Nat)] ∧ H' = H ∧ idxF f l 0 = idxF f (l.drop i) i) ⟨rfl,rfl,rfl⟩ ?_
 rintro i s H hi ⟨rfl,rfl,hd⟩
 by_cases hlt:i < l.length
 ·obtain ⟨k,b,hk,h2,h3,h4,h5⟩:=hx.idx (k:=.i64) (i:=i) (by simpa using hlt)
  simp only [List.getElem_map] at h4
  rw [List.drop_eq_getElem_cons hlt,idxF] at hd
  simp only [slices_IndexFunc_ferry_api_Timer_ferry_api_Timer_l1]
  (repeat' (first | (simp only [wp,extractV,w0,reduceIte,Nat.reduceAdd,Nat.reduceLT,Nat.reduceLeDiff,Nat.reduceEqDiff,ltT hlt,h2,h3,h4,addN hlt hl,tm_len,tm_take,tm_drop]) | (with_reducible ((first | apply xC | apply xG | apply xQ) <;> intro hb <;> try simp only [hb]))))
  refine (hF _ _ _ hc).2 ?_
  (repeat' (first | (simp only [wp,extractV,w0,reduceIte,Nat.reduceAdd,Nat.reduceLT,Nat.reduceLeDiff,Nat.reduceEqDiff]) | (with_reducible ((first | apply xC | apply xG | apply xQ) <;> intro hb <;> try simp only [hb]))))
  ·rw [hd,if_pos hb] at q
   exact q
  ·rw [if_neg (by rw [hb]; exact Bool.false_ne_true)] at hd
   exact ⟨hlt,hd⟩
 ·simp only [slices_IndexFunc_ferry_api_Timer_ferry_api_Timer_l1]
  (repeat' (first | (simp only [wp,extractV,w0,reduceIte,Nat.reduceAdd,Nat.reduceLT,Nat.reduceLeDiff,Nat.reduceEqDiff,ltF hlt]) | (with_reducible ((first | apply xC | apply xG | apply xQ) <;> intro hb <;> try simp only [hb]))))
  rw [List.drop_of_length_le (by omega)] at hd
  rw [hd] at q
  exact q
theorem deleteF_tm (n : Nat) {F : V} {c : Nat} {cb : Blk} {f : Tm → Bool} (hF : ∀ m, Asks G (n + m) F c cb (fun a => V.agg (tmRow a)) f) {x : V} {l : List Tm} {H : Heap} (hx : Own H x 2 (l.map tmRow)) (hc : H.blk c = some cb) (hcx : loc x ≠ some c) (hcl : c < H.next) (hl : l.length < big) :
    Run (callV (cfg G) (sem (cfg G) (n + 2)) 206 [x,F]) H fun y H' => Own H' y 2 ((l.filter fun a => !f a).map tmRow) ∧ Frame H H' (fun k => loc x = some k) ∧ ∀ k,loc y = some k → loc x = some k:=by
  rw [callV_inl rfl,slices_DeleteFunc_ferry_api_Timer_ferry_api_Timer_eq]
  simp only [slices_DeleteFunc_ferry_api_Timer_ferry_api_Timer]
  (repeat' (first | (simp only [wp,extractV,w0,reduceIte,Nat.reduceAdd,Nat.reduceLT,Nat.reduceLeDiff,Nat.reduceEqDiff]) | (with_reducible ((first | apply xC | apply xG | apply xQ) <;> intro hb <;> try simp only [hb]))))
  refine indexF_tm n (hF 0) hx hc (Nat.le_of_lt hl) ?_
  rcases idxF_cases f l 0 with ⟨e,hn⟩ | ⟨i0,hi0,e,hfi,hn⟩
  · rw [e]
    (repeat' (first | (simp only [wp,extractV,w0,reduceIte,Nat.reduceAdd,Nat.reduceLT,Nat.reduceLeDiff,Nat.reduceEqDiff,beq_self_eq_true]) | (with_reducible ((first | apply xC | apply xG | apply xQ) <;> intro hb <;> try simp only [hb]))))
    rw [List.filter_eq_self.2 fun a ha => by simp [hn a ha]]
    exact ⟨hx,Frame.refl _ _,fun _ h => h⟩
  · rw [e, Nat.zero_add]
    have hne : (((i0 : Nat) : Int) == -1) = false := by
      rw [beq_eq_false_iff_ne]; omega
    rcases hx with ⟨_,hnil⟩ | ⟨lx,nx,cx,ex,b,rfl,hb,hfl,hlx,hnc,hcb,hrows⟩
    · rw [List.map_eq_nil_iff] at hnil; subst hnil; simp at hi0
    · have hnx : nx = l.length := by
        have:=congrArg List.length hrows
        rw [List.length_take,List.length_map] at this
        omega
      subst hnx
      have hclx:c ≠ lx:=fun e => hcx (by rw [e]; rfl)
      (repeat' (first | (simp only [wp,extractV,w0,reduceIte,Nat.reduceAdd,Nat.reduceLT,Nat.reduceLeDiff,Nat.reduceEqDiff,hne,addN hi0 (Nat.le_of_lt hl)]) | (with_reducible ((first | apply xC | apply xG | apply xQ) <;> intro hb <;> try simp only [hb]))))
      refine Run.loop (N := l.length - (i0 + 1)) (fun r s H' => ∃ j i : Nat, j = i0 + 1 + r ∧ j ≤ l.length ∧ i = ((l.take j).filter fun a => !f a).length ∧ i < j ∧ s = [.int .i64 i, .int .i64 j] ∧ Frame H H' (fun k => k = lx) ∧
        ∃ R,H'.blk lx = some ⟨b.sz,R⟩ ∧ R.length = b.rows.length ∧ R.take i = ((l.take j).filter fun a => !f a).map tmRow ∧ (∀ k a,j ≤ k → l[k]? = some a → R[k]? = some (tmRow a)) ∧ ∀ k,k < l.length → ∃ r,R[k]? = some r ∧ r.length = 2) ?_ ?_
      · have hft : (l.take (i0 + 1)).filter (fun a => !f a) = l.take i0 := by
          rw [take_snoc hi0,List.filter_append,List.filter_eq_self.2 fun a ha => by simp [hn a ha],List.filter_cons_of_neg (by simp [hfi]),List.filter_nil,List.append_nil]
        have hget : ∀ k a, l[k]? = some a → b.rows[k]? = some (tmRow a) := fun k a ha => by
          have hk:=(List.getElem?_eq_some_iff.1 ha).1
          rw [← List.getElem?_take_of_lt hk,hrows,List.getElem?_map,ha]; rfl
        refine ⟨i0 + 1,i0,rfl,by omega,by rw [hft,List.length_take]; omega,by omega,rfl,Frame.refl _ _,b.rows,hb,rfl,?_,fun k a _ ha => hget k a ha,fun k hk => ⟨_,hget k _ (List.getElem?_eq_getElem hk),rfl⟩⟩
        rw [hft,List.map_take,← hrows,List.take_take,Nat.min_eq_left (by omega)]
      · rintro r s H' hr ⟨j, i, rfl, hjl, hi, hij, rfl, fr, R, hR, hRl, hRt, hRk, hRr⟩
        have hfl':H'.floor ≤ lx:=by rw [fr.floor]; exact hfl
        have hlx':lx < H'.next:=Nat.lt_of_lt_of_le hlx fr.next
        have hc':H'.blk c = some cb:=(fr.old c hcl fun e => hclx e).trans hc
        have hcl':c < H'.next:=Nat.lt_of_lt_of_le hcl fr.next
        have hlen:lenV (.ref lx 2 0 l.length cx ex) = some (.int .i64 (l.length:Int)):=rfl
        by_cases hlt:i0 + 1 + r < l.length
        · have h2 : idxV 2 (.ref lx 2 0 l.length cx ex) (.int .i64 ((i0 + 1 + r : Nat) : Int)) = some (.ptr lx (i0 + 1 + r) 0) := by simp [idxV]; omega
          have h3:idxV 2 (.ref lx 2 0 l.length cx ex) (.int .i64 ((i:Nat):Int)) = some (.ptr lx i 0):=by simp [idxV]; omega
          have h4:=hRk _ _ (Nat.le_refl _) (List.getElem?_eq_getElem hlt)
          obtain ⟨ri,h5,h6⟩:=hRr i (by omega)
          have hd:ri.drop 2 = []:=List.drop_of_length_le (by omega)
          have hle6:2 ≤ ri.length:=by omega
          have n1:¬ lx = H'.next:=by omega
          have n2:¬ c = H'.next:=by omega
          have n3:¬ H'.next = lx:=by omega
          have n4:H'.floor ≤ H'.next:=by omega
          have hfs : (l.take (i0 + 1 + r + 1)).filter (fun a => !f a) = (l.take (i0 + 1 + r)).filter (fun a => !f a) ++ if f l[i0 + 1 + r] then [] else [l[i0 + 1 + r]] := by
            rw [take_snoc hlt,List.filter_append]
            cases hfe:f l[i0 + 1 + r] <;> simp [hfe]
          simp only [slices_DeleteFunc_ferry_api_Timer_ferry_api_Timer_l1,slices_DeleteFunc_ferry_api_Timer_ferry_api_Timer_j1]
          (repeat' (first | (simp only [wp,extractV,w0,reduceIte,Nat.reduceAdd,Nat.reduceLT,Nat.reduceLeDiff,Nat.reduceEqDiff,hlen,ltT hlt,h2,h3,h4,h5,hR,tm_len,tm_take,tm_drop,n1,n2,n3,n4]) | (with_reducible ((first | apply xC | apply xG | apply xQ) <;> intro hb <;> try simp only [hb]))))
          refine (hF 1 _ _ _ (by simp [Heap.set_blk,Heap.add_blk,n2,hc'])).2 ?_
          (repeat' (first | (simp only [wp,extractV,w0,reduceIte,Nat.reduceAdd,Nat.reduceLT,Nat.reduceLeDiff,Nat.reduceEqDiff,hlen,ltT hlt,h2,h3,h4,h5,hR,tm_len,tm_take,tm_drop,n1,n2,n3,n4,hfl',hle6,hd,addN hlt (Nat.le_of_lt hl),addN (show i < l.length by omega) (Nat.le_of_lt hl)]) | (with_reducible ((first | apply xC | apply xG | apply xQ) <;> intro hb <;> try simp only [hb]))))
          · rw [if_pos hb] at hfs
            rw [List.append_nil] at hfs
            refine ⟨by omega,_,_,by omega,by omega,by rw [hfs]; exact hi,by omega,rfl,(fr.trans (Frame.add _ (fun _ => False)) (fun _ _ h => h) (fun _ _ h => h.elim)).trans (Frame.set _ _ (p:=fun k => k = H'.next) rfl) (fun _ _ h => h) (fun k hk e => by have:=fr.next; omega),R,rfl,hRl,by rw [hfs]; exact hRt,fun k a hk ha => hRk k a (by omega) ha,hRr⟩
          · rw [if_neg (by rw [hb]; exact Bool.false_ne_true)] at hfs
            have hlen':((l.take (i0 + 1 + r + 1)).filter fun a => !f a).length = i + 1:=by rw [hfs,List.length_append,← hi]; rfl
            refine ⟨by omega,_,_,by omega,by omega,hlen'.symm,by omega,rfl,((fr.trans (Frame.add _ (fun _ => False)) (fun _ _ h => h) (fun _ _ h => h.elim)).trans (Frame.set _ _ (p:=fun k => k = H'.next) rfl) (fun _ _ h => h) (fun k hk e => by have:=fr.next; omega)).trans (Frame.set _ _ (p:=fun k => k = lx) rfl) (fun _ _ h => h) (fun _ _ h => h),R.set i (tmRow l[i0 + 1 + r]),by simp [Heap.set_blk],by rw [List.length_set]; exact hRl,?_,fun k a hk ha => ?_,fun k hk => ?_⟩
            · have hi':i < (R.set i (tmRow l[i0 + 1 + r])).length:=by rw [List.length_set,hRl]; omega
              rw [take_snoc hi',hfs,List.map_append,List.getElem_set_self]
              congr 1
              rw [← hRt]
              exact List.take_set_of_le (Nat.le_refl _)
            · rw [List.getElem?_set_ne (by omega)]
              exact hRk k a (by omega) ha
            · by_cases e : i = k
              · subst e
                exact ⟨_,List.getElem?_set_self (by rw [hRl]; omega),rfl⟩
              · rw [List.getElem?_set_ne e]
                exact hRr k hk
        · have hje : i0 + 1 + r = l.length := by omega
          have hs1 : slV 2 (.ref lx 2 0 l.length cx ex) (some (.int .i64 ((i : Nat) : Int))) none none = some (.ref lx 2 i (l.length - i) (cx - i) ex) := by
            simp [slV,optNat,natOf]; omega
          have hs2 : slV 2 (.ref lx 2 0 l.length cx ex) none (some (.int .i64 ((i : Nat) : Int))) none = some (.ref lx 2 0 i cx ex) := by
            simp [slV,optNat,natOf]; omega
          simp only [slices_DeleteFunc_ferry_api_Timer_ferry_api_Timer_l1]
          (repeat' (first | (simp only [wp,extractV,w0,reduceIte,Nat.reduceAdd,Nat.reduceLT,Nat.reduceLeDiff,Nat.reduceEqDiff,hlen,ltF hlt,hs1]) | (with_reducible ((first | apply xC | apply xG | apply xQ) <;> intro hb <;> try simp only [hb]))))
          refine Run.clear rfl hfl' hR (by rw [hRl]; omega) ?_
          (repeat' (first | (simp only [wp,extractV,w0,reduceIte,Nat.reduceAdd,Nat.reduceLT,Nat.reduceLeDiff,Nat.reduceEqDiff,hs2]) | (with_reducible ((first | apply xC | apply xG | apply xQ) <;> intro hb <;> try simp only [hb]))))
          rw [List.take_of_length_le (show l.length ≤ i0 + 1 + r by omega)] at hRt
          refine ⟨.inr ⟨lx,i,cx,ex,_,rfl,by rw [Heap.set_blk,if_pos rfl],hfl',hlx',by omega,?_,?_⟩,(fr.mono (fun _ _ e => by rw [e]; rfl)).trans (Frame.set _ _ (p:=fun k => k = lx) rfl) (fun _ _ h => h) (fun _ _ e => by rw [e]; rfl),fun _ h => h⟩
          · simp only [List.length_append,List.length_take,List.length_replicate,List.length_drop]
            omega
          · rw [List.append_assoc,List.take_append_of_le_length (by rw [List.length_take,hRl]; omega),List.take_take,Nat.min_self]
            exact hRt
end Go.Fv.Tr
