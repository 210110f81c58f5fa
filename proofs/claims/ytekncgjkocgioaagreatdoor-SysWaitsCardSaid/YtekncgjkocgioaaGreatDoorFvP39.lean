/-
  A system call under way: its table taken, changed. By an AI agent; no person has read it.
-/
import Derived.Test.YtekncgjkocgioaaGreatDoorFvP38
set_option linter.unusedVariables false
set_option linter.unusedSimpArgs false
set_option linter.unusedSectionVars false
/-! A system call under way: its table taken, changed. -/
namespace Go.Fv.Tr
open Go Go.Fv Go.Fv.Pl Go.Proofs
variable {G : GV}
namespace Sy
variable {l m : List V} {s : St} {p : Pn} {x y z a b c d x' y' z' u v w g : V} {pr : List (List V)} {k : List V} {H H' K : Heap} {i : Nat} {pc tk ft : Int} {rep : V}
theorem own_some {xx:V} {sz:Nat} {rows:List (List V)} (h:Own H xx sz rows) {n:Nat} (hn:loc xx = some n):∃ b,H.blk n = some b:=by
 rcases h with ⟨rfl | rfl,_⟩ | ⟨l',n',c,ex,b,rfl,h1,_⟩
 ·cases hn
 ·cases hn
 ·cases hn; exact ⟨b,h1⟩
theorem ClX.some (h:ClX H i p s pc tk rep ft a b c d x y z u v w g pr) {n:Nat} (hn:n ∈ fp i x y z u v w g pr):∃ b,H.blk n = some b:=by
 obtain ⟨l,ms⟩:=h.ms
 rcases List.mem_cons.1 hn with rfl | hn
 ·exact ⟨_,h.blk⟩
 ·rcases List.mem_append.1 hn with hn | hn
  ·obtain ⟨q,hq,e⟩:=mem_lv.1 hn
   simp only [List.mem_cons,List.not_mem_nil,or_false] at hq
   rcases hq with rfl | rfl | rfl | rfl | rfl | rfl | rfl
   ·exact own_some ms.ps e
   ·exact own_some ms.q e
   ·exact own_some ms.ts e
   ·exact own_some ms.up e
   ·exact own_some ms.sems e
   ·exact own_some ms.ports e
   ·exact own_some ms.pages e
  ·obtain ⟨r,hr,e⟩:=List.mem_filterMap.1 hn
   obtain ⟨j,hj,rfl⟩:=List.mem_iff_getElem.1 hr
   obtain ⟨mm,er,ho,_⟩:=ms.row.row j hj
   rw [er] at e
   exact own_some ho e
theorem run_t {vis:Nat → Bool} {M0:M V} {r:V} {s':St} {rep':V} {ft':Int} (hx:ClX H i p s pc tk rep ft a b c d x y z u v w g pr) (hv:∀ n,n < H.next → vis n = true) (hf:H.floor = 0)
  (h:∀ K,ClX K i p s pc tk rep ft a b c d x y z u v w g pr → K.floor = 0 → Run M0 K fun q K' => q = r ∧ Cl K i p s' pc tk rep' ft' (fp i x y z u v w g pr) K') {Q:V → Heap → Prop}
  (q:∀ H',Cl H i p s' pc tk rep' ft' (fp i x y z u v w g pr) H' → Q r H'):Run (trun vis M0) H Q:=by
 refine Run.trunI ?_
 have fK:Frame H ⟨fun l => if vis l then H.blk l else none,H.next,H.floor⟩ (fun _ => False):=⟨Nat.le_refl _,rfl,fun n hn _ => by simp only [hv n hn,if_true]⟩
 refine (h _ (hx.frame fK fun _ _ => id) hf).mono fun y' K' ⟨e,hc⟩ => ?_
 subst e
 obtain ⟨a2,b2,c2,d2,x2,y2,z2,u2,v2,w2,g2,pr2,hx2,hf2,f2⟩:=hc
 refine q _ ⟨a2,b2,c2,d2,x2,y2,z2,u2,v2,w2,g2,pr2,hx2.frame (P:=fun n => n < H.next ∧ n ∉ fp i x y z u v w g pr) ⟨Nat.le_refl _,f2.floor.symm,fun n hn hP => ?_⟩ fun n hn hP => ?_,hf2,f2.t⟩
 ·show (if n < H.next then (if vis n && decide (H.floor ≤ n) && (H.blk n).isSome then K'.blk n else H.blk n) else K'.blk n) = K'.blk n
  by_cases hn':n < H.next
  ·have hm:n ∈ fp i x y z u v w g pr:=Classical.byContradiction fun g => hP ⟨hn',g⟩
   obtain ⟨bb,hb⟩:=hx.some hm
   rw [if_pos hn',hv n hn',hb,hf]
   simp
  ·rw [if_neg hn']
 ·rcases hf2 n hn with h1 | h1
  ·exact hP.2 h1
  ·exact absurd hP.1 (Nat.not_lt.2 h1)
set_option maxRecDepth 20000 in
theorem of_says (n:Nat) (hs:StS l s x y z u v w g pr) (hb:StB s):Says (cfg G) (sem (cfg G) (n + 2)) 135 [.agg l] fun r => ∃ a b c,r = .agg [a,b,c] ∧ IsTab a b c s.t:=by
 intro ok
 have hrb:=room_big
 obtain ⟨rfl,ht,-⟩:=hs
 rw [ferry_ready_Of_eq]
 simp only [ferry_ready_Of]
 (repeat' (first | (simp only [wp,extractV,w0,reduceIte,Nat.reduceAdd,Nat.reduceLT,Nat.reduceLeDiff,Nat.reduceEqDiff]) | (with_reducible ((first | refine Run.gC ?_ ?_ | refine Run.gG ?_ ?_ | refine Run.gQ ?_ ?_) <;> intro hb <;> try simp only [hb]))))
 generalize hH0:((Heap.empty.add ⟨10,[[i64 s.id,i64 s.fr,i64 s.ep,x,y,z,u,v,w,g]]⟩).add ⟨3,[[.nils,.nils,.nils]]⟩) = H0
 have e0:H0.next = 2:=by rw [← hH0]; rfl
 have b0:H0.blk 0 = some ⟨10,[[i64 s.id,i64 s.fr,i64 s.ep,x,y,z,u,v,w,g]]⟩:=by rw [← hH0]; rfl
 have b1:H0.blk 1 = some ⟨3,[[.nils,.nils,.nils]]⟩:=by rw [← hH0]; rfl
 have fl0:H0.floor = 0:=by rw [← hH0]; rfl
 clear hH0
 refine New_q (by omega) (fun K' hK' => clone72 (n + 0) ht.p (flat_prs _) (by simpa using hb.t.1) hK') fun x1 H1 o1 f1 l1 => ?_
 have b0:=(f1.old 0 (by omega) id).trans b0
 have b1:=(f1.old 1 (by omega) id).trans b1
 have fl1:=f1.floor.trans fl0
 have n1:=f1.next
 (repeat' (first | (simp only [wp,extractV,w0,reduceIte,Nat.reduceAdd,Nat.reduceLT,Nat.reduceLeDiff,Nat.reduceEqDiff,b0]) | (with_reducible ((first | refine Run.gC ?_ ?_ | refine Run.gG ?_ ?_ | refine Run.gQ ?_ ?_) <;> intro hb <;> try simp only [hb]))))
 refine New_q (by omega) (fun K' hK' => clone73 (n + 0) ht.q (flat_ints _) (by simpa using hb.t.2.1) hK') fun y1 H2 o2 f2 l2 => ?_
 have b0:=(f2.old 0 (by omega) id).trans b0
 have b1:=(f2.old 1 (by omega) id).trans b1
 have fl2:=f2.floor.trans fl1
 have n2:=f2.next
 (repeat' (first | (simp only [wp,extractV,w0,reduceIte,Nat.reduceAdd,Nat.reduceLT,Nat.reduceLeDiff,Nat.reduceEqDiff,b0]) | (with_reducible ((first | refine Run.gC ?_ ?_ | refine Run.gG ?_ ?_ | refine Run.gQ ?_ ?_) <;> intro hb <;> try simp only [hb]))))
 refine New_q (by omega) (fun K' hK' => clone74 (n + 0) ht.s (flat_tms _) (by simpa using hb.t.2.2) hK') fun z1 H3 o3 f3 l3 => ?_
 have b1:=(f3.old 1 (by omega) id).trans b1
 have fl3:=f3.floor.trans fl2
 have n3:=f3.next
 have fl3':H3.floor ≤ 1:=by omega
 (repeat' (first | (simp only [wp,extractV,w0,reduceIte,Nat.reduceAdd,Nat.reduceLT,Nat.reduceLeDiff,Nat.reduceEqDiff,b1,fl3',o1.cells,o2.cells,o3.cells,buildV,fill,putRow,tupV]) | (with_reducible ((first | refine Run.gC ?_ ?_ | refine Run.gG ?_ ?_ | refine Run.gQ ?_ ?_) <;> intro hb <;> try simp only [hb]))))
 have fz:Frame H3 (H3.set 1 ⟨3,[[x1,y1,z1]]⟩) (fun q => q = 1):=Frame.set _ _ rfl
 obtain ⟨p1,t1,s1⟩:=(((o1.frame f2 fun _ _ => id).frame f3 fun _ _ => id).frame fz fun q h1 h2 => by have:=l1 q h1; omega).thaw (flat_prs _) ok
 obtain ⟨p2,t2,s2⟩:=((o2.frame f3 fun _ _ => id).frame fz fun q h1 h2 => by have:=l2 q h1; omega).thaw (flat_ints _) ok
 obtain ⟨p3,t3,s3⟩:=(o3.frame fz fun q h1 h2 => by have:=l3 q h1; omega).thaw (flat_tms _) ok
 refine ⟨.agg [p1,p2,p3],?_,p1,p2,p3,rfl,s1,s2,s3,hb.wp,by have:=hb.t.1; omega,by have:=hb.t.2.1; omega,by have:=hb.t.2.2; omega⟩
 simp only [thawV,List.mapM_cons,List.mapM_nil,t1,t2,t3]
 rfl
set_option maxRecDepth 20000 in
theorem table_run (n:Nat) (h:ClX H i p s pc tk rep ft a b c d x y z u v w g pr) (hn:K.next = H.next) (hb:∀ q,q < H.next → K.blk q = H.blk q) (hK:K.floor ≤ K.next) :
  Run (callV (cfg G) (sem (cfg G) (n + 3)) 85 [.ptr i 0 0]) K fun r K' => (∃ a b c,r = .agg [a,b,c] ∧ IsTab a b c s.t) ∧ Frame K K' (fun _ => False):=by
 obtain ⟨l,ms⟩:=h.ms
 have hlt:=h.lt
 have hbi:K.blk i = _:=(hb i hlt).trans h.blk
 have hi:¬ (i = K.next):=by omega
 rw [callV_inl rfl,ferry_sys_caller_table_eq]
 simp only [ferry_sys_caller_table]
 (repeat' (first | (simp only [wp,extractV,w0,reduceIte,Nat.reduceAdd,Nat.reduceLT,Nat.reduceLeDiff,Nat.reduceEqDiff,hbi,nil_ptr,hi]) | (with_reducible ((first | refine Run.gC ?_ ?_ | refine Run.gG ?_ ?_ | refine Run.gQ ?_ ?_) <;> intro hb <;> try simp only [hb]))))
 obtain ⟨l',x',y',z',u',v',w',g',pr',e,hs⟩:=ms.thaw_in (K:=K.add ⟨3,[[.nils,.nils,.nils]]⟩) h.sb fun q hq => by rw [Heap.add_blk,if_neg (by omega)]; exact hb q hq
 rw [ms.eq] at e
 refine Run.ans rfl (bs:=[.agg l']) (by rw [List.mapM_cons,e]; rfl) (of_says n hs h.sb) fun r ⟨a1,b1,c1,er,ht⟩ => ?_
 subst er
 (repeat' (first | (simp only [wp,extractV,w0,reduceIte,Nat.reduceAdd,Nat.reduceLT,Nat.reduceLeDiff,Nat.reduceEqDiff,hK]) | (with_reducible ((first | refine Run.gC ?_ ?_ | refine Run.gG ?_ ?_ | refine Run.gQ ?_ ?_) <;> intro hb <;> try simp only [hb]))))
 exact ⟨⟨a1,b1,c1,rfl,ht⟩,(Frame.add _ _).st (Nat.le_refl _) _⟩
theorem own_fl {xx:V} {sz:Nat} {rows:List (List V)} (h:Own K xx sz rows) (hb:H.blk = K.blk) (hn:H.next = K.next) (hf:∀ n,loc xx = some n → H.floor ≤ n):Own H xx sz rows:=by
 rcases h with h | ⟨l',n',c,ex,b,rfl,h1,h2,h3,h4⟩
 ·exact .inl h
 ·exact .inr ⟨l',n',c,ex,b,rfl,by rw [hb]; exact h1,hf _ rfl,by rw [hn]; exact h3,h4⟩
theorem MS.fl (h:MS K l s x y z u v w g pr) (hb:H.blk = K.blk) (hn:H.next = K.next) (hf:∀ n ∈ lv [x,y,z,u,v,w,g] ++ lr pr,H.floor ≤ n):MS H l s x y z u v w g pr:=by
 have hl:∀ q ∈ [x,y,z,u,v,w,g],∀ n,loc q = some n → H.floor ≤ n:=fun q hq n hn => hf n (List.mem_append_left _ (mem_lv.2 ⟨q,hq,hn⟩))
 refine ⟨h.eq,own_fl h.ps hb hn (hl _ (by simp)),own_fl h.q hb hn (hl _ (by simp)),own_fl h.ts hb hn (hl _ (by simp)),own_fl h.up hb hn (hl _ (by simp)),own_fl h.sems hb hn (hl _ (by simp)),own_fl h.ports hb hn (hl _ (by simp)),own_fl h.pages hb hn (hl _ (by simp)),⟨h.row.len,fun j hj => ?_⟩,h.nd⟩
 obtain ⟨mm,er,ho,hl'⟩:=h.row.row j hj
 exact ⟨mm,er,own_fl ho hb hn fun n e => hf n (List.mem_append_right _ (List.mem_filterMap.2 ⟨_,List.getElem_mem hj,by rw [er]; exact e⟩)),hl'⟩
theorem q_newst {vis:Nat → Bool} {M0:M V} {s':St} (hv:∀ n,n < H.next → vis n = true) (hf:H.floor ≤ H.next)
  (h:∀ K:Heap,K.next = H.next → K.floor ≤ K.next → (∀ n,n < H.next → K.blk n = H.blk n) → Run M0 K (NewSt K s')) {Q:V → Heap → Prop} (q:∀ r H',NewSt H s' r H' → Q r H'):Run (qrun vis M0) H Q:=by
 refine Run.qAll (P:=fun r K' => ∃ l x y z u v w g pr,r = .agg l ∧ MS K' l s' x y z u v w g pr ∧ ∀ n ∈ lv [x,y,z,u,v,w,g] ++ lr pr,H.next ≤ n) hv (fun K k1 k2 k3 => ?_) fun r K' H' ⟨l,x,y,z,u,v,w,g,pr,e,ms,hge⟩ f hb hn => ?_
 ·refine (h K k1 k2 k3).mono fun r K' ⟨l,x,y,z,u,v,w,g,pr,e,ms,f,hge⟩ => ⟨f,l,x,y,z,u,v,w,g,pr,e,ms,fun n hn => ?_⟩
  rw [← k1]
  exact hge n hn
 ·refine q r H' ⟨l,x,y,z,u,v,w,g,pr,e,ms.fl hb hn fun n hn' => ?_,f,hge⟩
  rw [f.floor]
  exact Nat.le_trans hf (hge n hn')
theorem IsTab.bnd {t : Tab} (h : IsTab a b c t) (hl : t.ps.length ≤ 8 ∧ t.q.length ≤ 8 ∧ t.ts.length ≤ 8) : TbB t := ⟨h.wp, by unfold room; omega, by unfold room; omega, by unfold room; omega⟩
theorem StB.tab {s : St} (h : StB s) {t : Tab} (ht : TbB t) : StB { s with t := t } := ⟨ht.1, ht.2, h.up, h.sems, h.ports, h.pages, h.msgs, h.data⟩
set_option maxRecDepth 20000 in
set_option maxHeartbeats 1000000 in
theorem change_run (n:Nat) (h:ClX H i p s pc tk rep ft a b c d x y z u v w g pr) (hf:H.floor = 0) {t:Tab} {a1 b1 c1:V} (ht:IsTab a1 b1 c1 t) (htb:TbB t) (hpc:pc < t.ps.length) :
  Run (callV (cfg G) (sem (cfg G) (n + 4)) 83 [.ptr i 0 0,.agg [a1,b1,c1],.nili]) H fun r H' => r = .tuple [] ∧ Cl H i p { s with t:=t } pc tk rep ft (fp i x y z u v w g pr) H':=by
 have hms:=h.ms
 obtain ⟨l,ms⟩:=hms
 have hlt:=h.lt
 have hb:=h.blk
 have hi:¬ (i = H.next):=by omega
 rw [callV_inl rfl,ferry_sys_caller_change_eq]
 simp only [ferry_sys_caller_change]
 (repeat' (first | (simp only [wp,extractV,w0,reduceIte,Nat.reduceAdd,Nat.reduceLT,Nat.reduceLeDiff,Nat.reduceEqDiff,hb,nil_ptr,hi]) | (with_reducible ((first | refine Run.gC ?_ ?_ | refine Run.gG ?_ ?_ | refine Run.gQ ?_ ?_) <;> intro hb <;> try simp only [hb]))))
 have f0:Frame H (H.add ⟨3,[[a1,b1,c1]]⟩) (fun _ => False):=Frame.add _ _
 have fl:(H.add ⟨3,[[a1,b1,c1]]⟩).floor ≤ (H.add ⟨3,[[a1,b1,c1]]⟩).next:=by show H.floor ≤ H.next + 1; omega
 refine q_newst (s':={ s with t:=t }) (fun q hq => visB_low hq _) fl (fun K k1 k2 k3 => ?_) fun r H1 hN => ?_
 ·obtain ⟨l',x',y',z',u',v',w',g',pr',e,hs⟩:=ms.thaw_in (K:=K) h.sb fun q hq => (k3 q (by show q < H.next + 1; omega)).trans (by rw [Heap.add_blk,if_neg (by omega)])
  rw [ms.eq] at e
  refine Run.callOwn rfl (bs:=[.agg l',.agg [a1,b1,c1]]) ?_ (by simp [hs.closedV,ht.closed]) (into_new (n + 0) hs h.sb ht htb k2)
  rw [List.mapM_cons,e,List.mapM_cons,thawV_closed ht.closed]
  rfl
 ·obtain ⟨l2,x2,y2,z2,u2,v2,w2,g2,pr2,rfl,ms2,f2,hge⟩:=hN
  have e2:=ms2.eq
  subst e2
  have hn0:(H.add ⟨3,[[a1,b1,c1]]⟩).next = H.next + 1:=rfl
  have hb1:H1.blk i = _:=(f2.old i (by omega) id).trans ((f0.old i hlt id).trans hb)
  have fl1:H1.floor = 0:=by rw [f2.floor]; exact hf
  have nx:=f2.next
  (repeat' (first | (simp only [wp,extractV,w0,reduceIte,Nat.reduceAdd,Nat.reduceLT,Nat.reduceLeDiff,Nat.reduceEqDiff,hb1,nil_ptr,fl1]) | (with_reducible ((first | refine Run.gC ?_ ?_ | refine Run.gG ?_ ?_ | refine Run.gQ ?_ ?_) <;> intro hb <;> try simp only [hb]))))
  have fz:Frame H1 (H1.set i ⟨21,[[i64 p.id,.bool p.mob,a,b,c,i64 p.ev,d,i64 s.id,i64 s.fr,i64 s.ep,x2,y2,z2,u2,v2,w2,g2,i64 pc,i64 tk,rep,i64 ft]]⟩) (fun q => q = i):=Frame.set _ _ rfl
  have hni:∀ q ∈ lv [x2,y2,z2,u2,v2,w2,g2] ++ lr pr2,q ≠ i:=fun q hq e => by have:=hge q hq; omega
  refine ⟨a,b,c,d,x2,y2,z2,u2,v2,w2,g2,pr2,⟨by rw [Heap.set_blk,if_pos rfl],by show i < H1.next; omega,h.pn,⟨_,ms2.frame fz hni⟩,fun g => hni i g rfl,⟨h.pc.1,hpc⟩,h.sb.tab htb⟩,fun q hq => ?_,⟨by show H.next ≤ H1.next; omega,by show H1.floor = H.floor; omega,fun q hq hne => ?_⟩⟩
  ·rcases List.mem_cons.1 hq with rfl | hq
   ·exact .inl (List.mem_cons_self ..)
   ·have:=hge q hq
    exact .inr (by omega)
  ·have:q ≠ i:=fun e => hne (e ▸ List.mem_cons_self ..)
   rw [Heap.set_blk,if_neg this]
   exact (f2.old q (by omega) id).trans (f0.old q hq id)
end Sy
end Go.Fv.Tr
namespace Go.Fv.Tr
open Go Go.Fv Go.Proofs
set_option maxRecDepth 20000
noncomputable def ferry_ready_Block_j1 (G:GV) (call:CV) (aA:V) (aB:V):M R :=
 (loadN 3 aA).bind fun aC =>
 (storeN 3 aB aC).bind fun _ =>
 (M.ret V.nili).bind fun aD =>
 (((loadN 3 aB)).bind fun v => ((M.ret []).bind fun l => M.ret (aD :: l)).bind fun l => M.ret (v :: l)).bind fun l => M.ret (Ex.ret,tupV l)
noncomputable def ferry_ready_Block (G : GV) (call : CV) (x0 : V) (x1 : V) (x2 : V) (x3 : V) (x4 : V) : M R :=
  (newV x0).bind fun aA =>
  (newV (.agg [V.nils, V.nils, V.nils])).bind fun aB =>
  (M.ret V.nili).bind fun aC =>
  (loadN 3 aA).bind fun aD =>
  (M.ret x1).bind fun aE =>
  (sliceV 1 1 [(V.int .i64 0)] [(0, (V.int .i64 1))]).bind fun aF =>
  (callV (cfg G) call 133 [aD, aE, aF]).bind fun aG =>
  (M.ret aG).bind fun aH =>
  (M.lift (extractV aH 0)).bind fun aI =>
  (M.lift (extractV aH 1)).bind fun aJ =>
  (newV (.agg [V.nils, V.nils, V.nils])).bind fun aK =>
  (storeN 3 aK aI).bind fun _ =>
  (M.ret aJ).bind fun aL =>
  (M.ret aL).bind fun aM =>
  (M.lift ((eqV .iface true aM V.nili).bind fun b => some (.bool !b))).bind fun aN =>
  (condV aN
   ((M.lift (buildV [V.nils, V.nils, V.nils] [])).bind fun aO =>
  (M.ret aL).bind fun aP =>
  (storeN 3 aB aO).bind fun _ =>
  (M.ret aP).bind fun aQ =>
  (((loadN 3 aB)).bind fun v => ((M.ret []).bind fun l => M.ret (aQ :: l)).bind fun l => M.ret (v :: l)).bind fun l => M.ret (Ex.ret, tupV l))
   ((M.ret x2).bind fun aR =>
  (M.lift ((eqV (.sc .int) true aR (V.int .i64 1)).bind fun b => some (.bool b))).bind fun aS =>
  (M.ret aS).bind fun aT =>
  (M.ret x2).bind fun aU =>
  (M.lift (arithV .lss aU (V.int .i64 1))).bind fun aV =>
  (M.ret aV).bind fun aW =>
  (guardV aW false (M.ret x2)).bind fun aX =>
  (guardV aW false (M.lift (arithV .gtr aX (V.int .i64 4)))).bind fun aY =>
  (M.lift (pickV aW (V.bool true) aY)).bind fun aZ =>
  (M.ret aZ).bind fun bA =>
  (guardV bA false (M.ret x3)).bind fun bB =>
  (guardV bA false (M.lift (arithV .lss bB (V.int .i64 0)))).bind fun bC =>
  (M.lift (pickV bA (V.bool true) bC)).bind fun bD =>
  (M.ret bD).bind fun bE =>
  (guardV bE false (M.ret aT)).bind fun bF =>
  (guardV bE false (M.ret bF)).bind fun bG =>
  (guardV bG true (M.ret x3)).bind fun bH =>
  (guardV bG true (M.lift ((eqV (.sc .int) true bH (V.int .i64 0)).bind fun b => some (.bool !b)))).bind fun bI =>
  (guardV bG true (M.ret bI)).bind fun bJ =>
  (guardV bJ false (M.ret x4)).bind fun bK =>
  (guardV bJ false (M.lift ((eqV (.sc .int) true bK (V.int .i64 (-1))).bind fun b => some (.bool b)))).bind fun bL =>
  (guardV bG true (M.lift (pickV bJ (V.bool true) bL))).bind fun bM =>
  (guardV bE false (M.lift (pickV bG bM (V.bool false)))).bind fun bN =>
  (M.lift (pickV bE (V.bool true) bN)).bind fun bO =>
  (M.ret bO).bind fun bP =>
  (guardV bP false (M.ret x4)).bind fun bQ =>
  (guardV bP false (M.lift (arithV .lss bQ (V.int .i64 (-1))))).bind fun bR =>
  (M.lift (pickV bP (V.bool true) bR)).bind fun bS =>
  (M.ret bS).bind fun bT =>
  (guardV bT false (M.ret x4)).bind fun bU =>
  (guardV bT false (M.lift (arithV .gtr bU (V.int .i64 1010000)))).bind fun bV =>
  (M.lift (pickV bT (V.bool true) bV)).bind fun bW =>
  (condV bW
   (((M.lift (buildV [V.nils, V.nils, V.nils] [])).bind fun bX =>
  (load1 (glob (cfg G) 0)).bind fun bY =>
  guardM (apartV (glob (cfg G) 0) aB && true) (
  (storeN 3 aB bX).bind fun _ =>
  (M.ret bY).bind fun bZ =>
  (((loadN 3 aB)).bind fun v => ((M.ret []).bind fun l => M.ret (bZ :: l)).bind fun l => M.ret (v :: l)).bind fun l => M.ret (Ex.ret, tupV l))))
   ((M.ret x1).bind fun cA =>
  (callV (cfg G) call 134 [aK, cA]).bind fun cB =>
  (M.lift (padd 0 aK)).bind fun cC =>
  (load1 cC).bind fun cD =>
  (M.ret x1).bind fun cE =>
  (M.lift (idxV 21 cD cE)).bind fun cF =>
  (M.ret cF).bind fun cG =>
  (M.ret cG).bind fun cH =>
  (M.ret cG).bind fun cI =>
  (M.ret cG).bind fun cJ =>
  (M.ret x2).bind fun cK =>
  (M.ret x3).bind fun cL =>
  (M.lift (nilCheckV cH)).bind fun cM =>
  (M.lift (padd 17 cM)).bind fun cN =>
  (storeN 1 cN (V.int .i64 2)).bind fun _ =>
  (M.lift (nilCheckV cI)).bind fun cO =>
  (M.lift (padd 19 cO)).bind fun cP =>
  (storeN 1 cP cK).bind fun _ =>
  (M.lift (nilCheckV cJ)).bind fun cQ =>
  (M.lift (padd 20 cQ)).bind fun cR =>
  (storeN 1 cR cL).bind fun _ =>
  (M.ret x4).bind fun cS =>
  (M.lift (arithV .geq cS (V.int .i64 0))).bind fun cT =>
  (condV cT
   ((M.lift (padd 2 aK)).bind fun cU =>
  (load1 cU).bind fun cV =>
  (M.ret x1).bind fun cW =>
  (M.ret x4).bind fun cX =>
  (callV (cfg G) call 136 [cV, cW, cX]).bind fun cY =>
  (M.ret cY).bind fun cZ =>
  (M.lift (extractV cZ 0)).bind fun dA =>
  (M.lift (extractV cZ 1)).bind fun dB =>
  (M.lift (padd 2 aK)).bind fun dC =>
  (storeN 1 dC dA).bind fun _ =>
  (M.ret dB).bind fun dD =>
  (M.ret dD).bind fun dE =>
  (M.lift ((eqV .iface true dE V.nili).bind fun b => some (.bool !b))).bind fun dF =>
  (condV dF
   ((M.lift (buildV [V.nils, V.nils, V.nils] [])).bind fun dG =>
  (M.ret dD).bind fun dH =>
  (storeN 3 aB dG).bind fun _ =>
  (M.ret dH).bind fun dI =>
  (((loadN 3 aB)).bind fun v => ((M.ret []).bind fun l => M.ret (dI :: l)).bind fun l => M.ret (v :: l)).bind fun l => M.ret (Ex.ret, tupV l))
   (ferry_ready_Block_j1 G call aK aB)))
   (ferry_ready_Block_j1 G call aK aB))))))
theorem ferry_ready_Block_eq (G:GV) (n:Nat) (x0:V) (x1:V) (x2:V) (x3:V) (x4:V):sem (cfg G) (n + 1) 90 [x0,x1,x2,x3,x4] = outV (ferry_ready_Block G (sem (cfg G) n) x0 x1 x2 x3 x4) :=
 (fnV_at (C:=cfg G) (n:=n) (f:=90) (fn:=Tryz.f90) (c:=Tryz.f90.body.getD .skip) (by kernel_rfl) (by kernel_rfl) (by kernel_rfl) [x0,x1,x2,x3,x4]).trans (by kernel_rfl)
end Go.Fv.Tr
namespace Go.Fv.Tr
open Go Go.Fv Go.Fv.Pl Go.Proofs
variable {G : GV}
theorem row16 {p:Pr} (h:Wp p):∃ a0 a1 a2 a3 a4 a5 a6 a7 a8 a9 a10 a11 a12 a13 a14 a15:Int,p.regs = [a0,a1,a2,a3,a4,a5,a6,a7,a8,a9,a10,a11,a12,a13,a14,a15] ∧
  prRow p = [.int .u32 a0,.int .u32 a1,.int .u32 a2,.int .u32 a3,.int .u32 a4,.int .u32 a5,.int .u32 a6,.int .u32 a7,.int .u32 a8,.int .u32 a9,.int .u32 a10,.int .u32 a11,.int .u32 a12,.int .u32 a13,.int .u32 a14,.int .u32 a15,
   .int .u32 p.pc,.int .i64 p.state,.int .i64 p.prio,.int .i64 p.wait,.int .i64 p.obj]:=by
 obtain ⟨a0,a1,a2,a3,a4,a5,a6,a7,a8,a9,a10,a11,a12,a13,a14,a15,hr⟩:=len16 h
 exact ⟨_,_,_,_,_,_,_,_,_,_,_,_,_,_,_,_,hr,by unfold prRow; rw [hr]; rfl⟩
theorem sls_thaw {x:V} {sz:Nat} {rows:List (List V)} (h:Sls x sz rows) (H:Heap):thaw true H x = some x:=by
 rcases h with rfl | ⟨_,rfl | rfl⟩ <;> simp [thaw,V.flat,V.closed]
theorem OwnTab.show3 {H K':Heap} {x y z z':V} {u:Tab} {ts:List Tm} (h:OwnTab H x y z u) (hw:∀ p ∈ u.ps,Wp p) (hz:Sls z' 2 (ts.map tmRow)) (hb:TabOk ⟨u.ps,u.q,ts⟩)
  (hK:∀ k b,(loc x = some k ∨ loc y = some k) → H.blk k = some b → K'.blk k = some b):∃ a b,thaw2 true K' (.agg [x,y,z']) = some (.agg [a,b,z']) ∧ IsTab a b z' ⟨u.ps,u.q,ts⟩:=by
 have n1:∀ {v:V} {sz:Nat} {rows:List (List V)},Own H v sz rows → (∀ k,loc v = some k → loc x = some k ∨ loc y = some k) → Own ⟨K'.blk,H.next,H.floor⟩ v sz rows:=fun {v sz rows} o hv => by
  rcases o with o | ⟨l,n,c,ex,b,rfl,h1,h2,h3,h4⟩
  ·exact .inl o
  ·exact .inr ⟨l,n,c,ex,b,rfl,hK _ _ (hv _ rfl) h1,h2,h3,h4⟩
 obtain ⟨a,a1,a2⟩:=(n1 h.p fun k g => .inl g).thaw (flat_pr _) true
 obtain ⟨b,b1,b2⟩:=(n1 h.q fun k g => .inr g).thaw (flat_ir _) true
 have e1:∀ v,thaw true K' v = thaw true ⟨K'.blk,H.next,H.floor⟩ v:=fun v => mapM_eq (H:=⟨K'.blk,H.next,H.floor⟩) (fun _ => rfl) v
 have e2:[x,y,z'].mapM (thaw true K') = some [a,b,z']:=by simp [e1,a1,b1,sls_thaw hz]
 exact ⟨a,b,by simp only [thaw2,e2]; rfl,a2,b2,hz,hw,big_of hb⟩
theorem OwnTab.show1 {H K':Heap} {x y z:V} {u:Tab} (h:OwnTab H x y z u) (hw:∀ p ∈ u.ps,Wp p) (hb:TabOk u)
  (hK:∀ k b,(loc x = some k ∨ loc y = some k ∨ loc z = some k) → H.blk k = some b → K'.blk k = some b) (ok:Bool):∃ a b c,thaw2 ok K' (.agg [x,y,z]) = some (.agg [a,b,c]) ∧ IsTab a b c u:=by
 have n1:∀ {v:V} {sz:Nat} {rows:List (List V)},Own H v sz rows → (∀ k,loc v = some k → loc x = some k ∨ loc y = some k ∨ loc z = some k) → Own ⟨K'.blk,H.next,H.floor⟩ v sz rows:=fun {v sz rows} o hv => by
  rcases o with o | ⟨l,n,c,ex,b,rfl,h1,h2,h3,h4⟩
  ·exact .inl o
  ·exact .inr ⟨l,n,c,ex,b,rfl,hK _ _ (hv _ rfl) h1,h2,h3,h4⟩
 obtain ⟨a,b,c,q1,q2⟩:=thaw2_tab (H:=⟨K'.blk,H.next,H.floor⟩) ⟨n1 h.p fun k g => .inl g,n1 h.q fun k g => .inr (.inl g),n1 h.s fun k g => .inr (.inr g),h.pq,h.ps,h.qs⟩ hw hb ok
 exact ⟨a,b,c,(thaw2_eq (H:=⟨K'.blk,H.next,H.floor⟩) (H':=K') (fun _ => rfl) _).trans q1,q2⟩
set_option maxRecDepth 20000 in
theorem block_spec (hG:Errs G) (n:Nat) {x y z:V} {t:Tab} (h:IsTab x y z t) (p w o d:Int) :
  ∃ r,callV (cfg G) (sem (cfg G) (n + 8)) 90 [.agg [x,y,z],.int .i64 p,.int .i64 w,.int .i64 o,.int .i64 d] = M.ret r ∧ Ans t (inOk t p [1] ∧ blkOk w o d) (Tab.block t p w o d) r:=by
 refine callV_pureE rfl (by simp [h.closed,cI]) ?_
 rw [ferry_ready_Block_eq]
 simp only [ferry_ready_Block,ferry_ready_Block_j1]
 (repeat' (first | (simp only [wp,extractV,w0,reduceIte,Nat.reduceAdd,Nat.reduceLT,Nat.reduceLeDiff,Nat.reduceEqDiff,Run.slice,fillRows,List.replicate_succ,List.replicate_zero]) | (with_reducible ((first | refine Run.gC ?_ ?_ | refine Run.gG ?_ ?_ | refine Run.gQ ?_ ?_) <;> intro hb <;> try simp only [hb]))))
 refine (in_spec hG n h p (w:=.imm 1 [[.int .i64 1]]) (ss:=[1]) (Sls.imm _ _) (by decide) (Nat.zero_le _) ?_).mono fun v H1 hres => ?_
 ·rw [List.mapM_cons,thawV_closed h.closed]
  rfl
 rcases hres with ⟨hok,hin,u,rfl,a,b,c,rfl,o1,f,ll⟩ | ⟨hok,rfl,rfl⟩ | ⟨hok,hin,rfl,rfl⟩
 ·have few:=((ROk_iff t).2 hok).few
  have e1:H1.floor = 0:=f.floor
  have i1:=InB.start o1 f (Nat.zero_le _) ll h.wp
  have n1:3 ≤ H1.next:=f.next
  have z1:¬ 1 = H1.next:=by omega
  have b1:H1.blk 1 = some ⟨3,[[.nils,.nils,.nils]]⟩:=(f.old 1 (by simp [Heap.add_next,Heap.empty_next]) id).trans rfl
  have hin':=hin
  obtain ⟨q,hq,hs⟩:=hin
  have hs1:q.state = 1:=by simpa using hs
  have hlt0:=at?_lt hq
  obtain ⟨k,rfl⟩:=Int.eq_ofNat_of_zero_le hlt0.1
  have hk:k < t.ps.length:=by omega
  by_cases hnb:blkOk w o d
  ·have c1:decide (w < 1) = false:=decide_eq_false (by have:=hnb.1; omega)
   have c2:decide (4 < w) = false:=decide_eq_false (by have:=hnb.1; omega)
   have c3:decide (o < 0) = false:=decide_eq_false (by have:=hnb.2.1; omega)
   have c4:decide (d < -1) = false:=decide_eq_false (by have:=hnb.2.2.2; omega)
   have c5:decide (1010000 < d) = false:=decide_eq_false (by have:=hnb.2.2.2; omega)
   have cs:(w == 1) = true ∧ (o == 0) = true ∧ (d == -1) = false ∨ (w == 1) = false:=by
    by_cases hw:w = 1
    ·have:=hnb.2.2.1 hw
     exact .inl (by simp [hw,this.1,this.2])
    ·exact .inr (by simpa using hw)
   obtain ⟨a0,a1,a2,a3,a4,a5,a6,a7,a8,a9,a10,a11,a12,a13,a14,a15,hr,hrow⟩:=row16 (h.wp _ (List.getElem_mem hk))
   have hrow':prRow (blockP w o t.ps[k]) = [.int .u32 a0,.int .u32 a1,.int .u32 a2,.int .u32 a3,.int .u32 a4,.int .u32 a5,.int .u32 a6,.int .u32 a7,.int .u32 a8,.int .u32 a9,.int .u32 a10,.int .u32 a11,.int .u32 a12,.int .u32 a13,.int .u32 a14,.int .u32 a15,
    .int .u32 t.ps[k].pc,.int .i64 2,.int .i64 t.ps[k].prio,.int .i64 w,.int .i64 o]:=by unfold prRow blockP; rw [hr]; rfl
   have hok':=TabOk.block hok hq hs1 hnb
   rcases cs with ⟨s1,s2,s3⟩ | s1
   ·(repeat' (first | (simp only [wp,extractV,w0,reduceIte,Nat.reduceAdd,Nat.reduceLT,Nat.reduceLeDiff,Nat.reduceEqDiff,e1,s1,s2,s3,c1,c2,c3,c4,c5]) | (with_reducible ((first | refine Run.gC ?_ ?_ | refine Run.gG ?_ ?_ | refine Run.gQ ?_ ?_) <;> intro hb <;> try simp only [hb]))))
    refine (i1.leave (n + 3) (by unfold big; omega) k).mono fun _ H2 ⟨i2,n2⟩ => ?_
    obtain ⟨xx,yy,zz,lx,B,q1,q2,q3,q4,q5,q6,q7,q8,q9,put⟩:=i2.proc (p:=k) hk
    have q4':B.rows[k]? = some (prRow t.ps[k]):=q4
    rw [hrow] at q4'
    have hgs:∀ r,(B.rows.set k r)[k]? = some r:=fun r => List.getElem?_set_self q5
    have z2:¬ H1.next = lx:=fun e => q7 e.symm
    have z3:¬ 1 = lx:=by have:3 ≤ lx:=q8; omega
    have e2:H2.floor = 0:=i2.fl
    have i3:=put (blockP w o) (show Wp (blockP w o t.ps[k]) from h.wp t.ps[k] (List.getElem_mem hk))
    have d1:H2.blk 1 = some ⟨3,[[.nils,.nils,.nils]]⟩:=(i2.old 1 (by simp [Heap.add_next,Heap.empty_next])).trans rfl
    have k3':∀ j,3 ≤ j → ¬ j = 1:=fun j hj => by omega
    obtain ⟨x3,y3,z3',q10,o3,k3⟩:=i3.tab
    have e3:x3 = xx ∧ y3 = yy ∧ z3' = zz:=by
     rw [Heap.set_blk,if_neg z2,q1] at q10
     cases q10
     exact ⟨rfl,rfl,rfl⟩
    obtain ⟨rfl,rfl,rfl⟩:=e3
    by_cases hd:0 ≤ d
    ·(repeat' (first | (simp only [wp,extractV,w0,reduceIte,Nat.reduceAdd,Nat.reduceLT,Nat.reduceLeDiff,Nat.reduceEqDiff,q1,q2,q3,q4',hgs,Heap.set_set,List.set_set,e2,z2,z3,decide_eq_true hd]) | (with_reducible ((first | refine Run.gC ?_ ?_ | refine Run.gG ?_ ?_ | refine Run.gQ ?_ ?_) <;> intro hb <;> try simp only [hb]))))
     rw [← hrow']
     obtain ⟨zi,g1,_,g3⟩:=o3.s.thawV (flat_tm _) true
     refine Run.ans (bs:=[zi,.int .i64 k,.int .i64 d]) rfl ?_ (set_spec hG.s n g3 h.big.2.2 k d) fun r hr => ?_
     ·rw [List.mapM_cons,show thawV true _ z3' = some zi from g1]
      simp [thawV,thaw,V.flat]
     have hts:TsOk 8 t.ts:=by
      have:=hok.ts
      have h8:=hok.few
      rw [TsOk_iff] at this ⊢
      exact ⟨fun a ha => by have:=this.1 a ha; unfold right at *; omega,this.2⟩
     have hri:right 8 ⟨(k:Int),d⟩:=by
      have:=hnb.2.2.2
      have h8:=hok.few
      unfold right; simp only; omega
     rcases hr with ⟨_,_,zs,rfl,sz⟩ | ⟨_,g,_⟩ | ⟨g,_⟩
     ·have sz':Sls zs 2 ((if 0 ≤ d then setT t.ts k d else t.ts).map tmRow):=by rw [if_pos hd]; exact sz
      (repeat' (first | (simp only [wp,extractV,w0,reduceIte,Nat.reduceAdd,Nat.reduceLT,Nat.reduceLeDiff,Nat.reduceEqDiff,q1,z2,z3,e2,sz.cells,d1,z1,tupV]) | (with_reducible ((first | refine Run.gC ?_ ?_ | refine Run.gG ?_ ?_ | refine Run.gQ ?_ ?_) <;> intro hb <;> try simp only [hb]))))
      obtain ⟨a',b',s1,s2⟩:=o3.show3 (K':=((H2.set lx ⟨B.sz,B.rows.set k (prRow (blockP w o t.ps[k]))⟩).set H1.next ⟨3,[[x3,y3,zs]]⟩).set 1 ⟨3,[[x3,y3,zs]]⟩) i3.wp sz' hok' fun k' b' hk' hb' => by
       have:3 ≤ k' ∧ k' ≠ H1.next:=k3 k' (hk'.imp id .inl)
       rw [Heap.set_blk,if_neg (by omega),Heap.set_blk,if_neg this.2]
       exact hb'
      exact ⟨_,thawV_tup (mapM2 s1 (thaw2_nili _ _)),.inl ⟨hok,⟨hin',hnb⟩,_,_,_,rfl,s2⟩⟩
     ·exact absurd hri g
     ·exact absurd hts g
    ·(repeat' (first | (simp only [wp,extractV,w0,reduceIte,Nat.reduceAdd,Nat.reduceLT,Nat.reduceLeDiff,Nat.reduceEqDiff,q1,q2,q3,q4',hgs,Heap.set_set,List.set_set,e2,z2,z3,decide_eq_false hd,d1,z1,tupV]) | (with_reducible ((first | refine Run.gC ?_ ?_ | refine Run.gG ?_ ?_ | refine Run.gQ ?_ ?_) <;> intro hb <;> try simp only [hb]))))
     rw [← hrow']
     have hok'':TabOk ⟨setP t.ps (k:Int) (blockP w o),t.q.filter (· ≠ (k:Int)),t.ts⟩:=by
      have:=hok'
      unfold Tab.block at this
      rwa [if_neg hd] at this
     have eb:Tab.block t k w o d = ⟨setP t.ps (k:Int) (blockP w o),t.q.filter (· ≠ (k:Int)),t.ts⟩:=by unfold Tab.block; rw [if_neg hd]
     obtain ⟨a',b',c',s1,s2⟩:=o3.show1 (K':=(H2.set lx ⟨B.sz,B.rows.set k (prRow (blockP w o t.ps[k]))⟩).set 1 ⟨3,[[x3,y3,z3']]⟩) i3.wp hok'' (fun k' b' hk' hb' => by
      have:3 ≤ k' ∧ k' ≠ H1.next:=k3 k' hk'
      rw [Heap.set_blk,if_neg (by omega)]
      exact hb') true
     exact ⟨_,thawV_tup (mapM2 s1 (thaw2_nili _ _)),.inl ⟨hok,⟨hin',hnb⟩,_,_,_,rfl,by rw [eb]; exact s2⟩⟩
   ·(repeat' (first | (simp only [wp,extractV,w0,reduceIte,Nat.reduceAdd,Nat.reduceLT,Nat.reduceLeDiff,Nat.reduceEqDiff,e1,s1,c1,c2,c3,c4,c5]) | (with_reducible ((first | refine Run.gC ?_ ?_ | refine Run.gG ?_ ?_ | refine Run.gQ ?_ ?_) <;> intro hb <;> try simp only [hb]))))
    refine (i1.leave (n + 3) (by unfold big; omega) k).mono fun _ H2 ⟨i2,n2⟩ => ?_
    obtain ⟨xx,yy,zz,lx,B,q1,q2,q3,q4,q5,q6,q7,q8,q9,put⟩:=i2.proc (p:=k) hk
    have q4':B.rows[k]? = some (prRow t.ps[k]):=q4
    rw [hrow] at q4'
    have hgs:∀ r,(B.rows.set k r)[k]? = some r:=fun r => List.getElem?_set_self q5
    have z2:¬ H1.next = lx:=fun e => q7 e.symm
    have z3:¬ 1 = lx:=by have:3 ≤ lx:=q8; omega
    have e2:H2.floor = 0:=i2.fl
    have i3:=put (blockP w o) (show Wp (blockP w o t.ps[k]) from h.wp t.ps[k] (List.getElem_mem hk))
    have d1:H2.blk 1 = some ⟨3,[[.nils,.nils,.nils]]⟩:=(i2.old 1 (by simp [Heap.add_next,Heap.empty_next])).trans rfl
    have k3':∀ j,3 ≤ j → ¬ j = 1:=fun j hj => by omega
    obtain ⟨x3,y3,z3',q10,o3,k3⟩:=i3.tab
    have e3:x3 = xx ∧ y3 = yy ∧ z3' = zz:=by
     rw [Heap.set_blk,if_neg z2,q1] at q10
     cases q10
     exact ⟨rfl,rfl,rfl⟩
    obtain ⟨rfl,rfl,rfl⟩:=e3
    by_cases hd:0 ≤ d
    ·(repeat' (first | (simp only [wp,extractV,w0,reduceIte,Nat.reduceAdd,Nat.reduceLT,Nat.reduceLeDiff,Nat.reduceEqDiff,q1,q2,q3,q4',hgs,Heap.set_set,List.set_set,e2,z2,z3,decide_eq_true hd]) | (with_reducible ((first | refine Run.gC ?_ ?_ | refine Run.gG ?_ ?_ | refine Run.gQ ?_ ?_) <;> intro hb <;> try simp only [hb]))))
     rw [← hrow']
     obtain ⟨zi,g1,_,g3⟩:=o3.s.thawV (flat_tm _) true
     refine Run.ans (bs:=[zi,.int .i64 k,.int .i64 d]) rfl ?_ (set_spec hG.s n g3 h.big.2.2 k d) fun r hr => ?_
     ·rw [List.mapM_cons,show thawV true _ z3' = some zi from g1]
      simp [thawV,thaw,V.flat]
     have hts:TsOk 8 t.ts:=by
      have:=hok.ts
      have h8:=hok.few
      rw [TsOk_iff] at this ⊢
      exact ⟨fun a ha => by have:=this.1 a ha; unfold right at *; omega,this.2⟩
     have hri:right 8 ⟨(k:Int),d⟩:=by
      have:=hnb.2.2.2
      have h8:=hok.few
      unfold right; simp only; omega
     rcases hr with ⟨_,_,zs,rfl,sz⟩ | ⟨_,g,_⟩ | ⟨g,_⟩
     ·have sz':Sls zs 2 ((if 0 ≤ d then setT t.ts k d else t.ts).map tmRow):=by rw [if_pos hd]; exact sz
      (repeat' (first | (simp only [wp,extractV,w0,reduceIte,Nat.reduceAdd,Nat.reduceLT,Nat.reduceLeDiff,Nat.reduceEqDiff,q1,z2,z3,e2,sz.cells,d1,z1,tupV]) | (with_reducible ((first | refine Run.gC ?_ ?_ | refine Run.gG ?_ ?_ | refine Run.gQ ?_ ?_) <;> intro hb <;> try simp only [hb]))))
      obtain ⟨a',b',s1,s2⟩:=o3.show3 (K':=((H2.set lx ⟨B.sz,B.rows.set k (prRow (blockP w o t.ps[k]))⟩).set H1.next ⟨3,[[x3,y3,zs]]⟩).set 1 ⟨3,[[x3,y3,zs]]⟩) i3.wp sz' hok' fun k' b' hk' hb' => by
       have:3 ≤ k' ∧ k' ≠ H1.next:=k3 k' (hk'.imp id .inl)
       rw [Heap.set_blk,if_neg (by omega),Heap.set_blk,if_neg this.2]
       exact hb'
      exact ⟨_,thawV_tup (mapM2 s1 (thaw2_nili _ _)),.inl ⟨hok,⟨hin',hnb⟩,_,_,_,rfl,s2⟩⟩
     ·exact absurd hri g
     ·exact absurd hts g
    ·(repeat' (first | (simp only [wp,extractV,w0,reduceIte,Nat.reduceAdd,Nat.reduceLT,Nat.reduceLeDiff,Nat.reduceEqDiff,q1,q2,q3,q4',hgs,Heap.set_set,List.set_set,e2,z2,z3,decide_eq_false hd,d1,z1,tupV]) | (with_reducible ((first | refine Run.gC ?_ ?_ | refine Run.gG ?_ ?_ | refine Run.gQ ?_ ?_) <;> intro hb <;> try simp only [hb]))))
     rw [← hrow']
     have hok'':TabOk ⟨setP t.ps (k:Int) (blockP w o),t.q.filter (· ≠ (k:Int)),t.ts⟩:=by
      have:=hok'
      unfold Tab.block at this
      rwa [if_neg hd] at this
     have eb:Tab.block t k w o d = ⟨setP t.ps (k:Int) (blockP w o),t.q.filter (· ≠ (k:Int)),t.ts⟩:=by unfold Tab.block; rw [if_neg hd]
     obtain ⟨a',b',c',s1,s2⟩:=o3.show1 (K':=(H2.set lx ⟨B.sz,B.rows.set k (prRow (blockP w o t.ps[k]))⟩).set 1 ⟨3,[[x3,y3,z3']]⟩) i3.wp hok'' (fun k' b' hk' hb' => by
      have:3 ≤ k' ∧ k' ≠ H1.next:=k3 k' hk'
      rw [Heap.set_blk,if_neg (by omega)]
      exact hb') true
     exact ⟨_,thawV_tup (mapM2 s1 (thaw2_nili _ _)),.inl ⟨hok,⟨hin',hnb⟩,_,_,_,rfl,by rw [eb]; exact s2⟩⟩
  ·(repeat' (first | (simp only [wp,extractV,w0,reduceIte,Nat.reduceAdd,Nat.reduceLT,Nat.reduceLeDiff,Nat.reduceEqDiff,e1,b1,z1,glob_at hG.arg,buildV,fill,apartV,tupV]) | (with_reducible ((first | refine Run.gC ?_ ?_ | refine Run.gG ?_ ?_ | refine Run.gQ ?_ ?_) <;> intro hb <;> try simp only [hb]))))
   all_goals first
    | exact ⟨_,thaw_bad _ _,.inr (.inr ⟨hok,fun g => hnb g.2,rfl⟩)⟩
    | (exfalso; simp only [decide_eq_true_eq,decide_eq_false_iff_not,beq_iff_eq,beq_eq_false_iff_ne,ne_eq] at *; exact hnb ⟨by omega,by omega,fun _ => by omega,by omega⟩)
 ·(repeat' (first | (simp only [wp,extractV,w0,reduceIte,Nat.reduceAdd,Nat.reduceLT,Nat.reduceLeDiff,Nat.reduceEqDiff,badV,eq_err,buildV,fill,tupV]) | (with_reducible ((first | refine Run.gC ?_ ?_ | refine Run.gG ?_ ?_ | refine Run.gQ ?_ ?_) <;> intro hb <;> try simp only [hb]))))
  exact ⟨_,thaw_bad _ _,.inr (.inl ⟨hok,rfl⟩)⟩
 ·(repeat' (first | (simp only [wp,extractV,w0,reduceIte,Nat.reduceAdd,Nat.reduceLT,Nat.reduceLeDiff,Nat.reduceEqDiff,badV,eq_err,buildV,fill,tupV]) | (with_reducible ((first | refine Run.gC ?_ ?_ | refine Run.gG ?_ ?_ | refine Run.gQ ?_ ?_) <;> intro hb <;> try simp only [hb]))))
  exact ⟨_,thaw_bad _ _,.inr (.inr ⟨hok,fun g => hin g.1,rfl⟩)⟩
end Go.Fv.Tr
namespace Go.Fv.Tr
open Go Go.Fv Go.Proofs
set_option maxRecDepth 20000
end Go.Fv.Tr
namespace Go.Fv.Tr
open Go Go.Fv Go.Fv.Pl Go.Proofs
variable {G : GV}
end Go.Fv.Tr
namespace Go.Fv.Tr
open Go Go.Fv Go.Fv.Pl Go.Proofs
variable {G : GV}
variable {K H H3 : Heap} {lt : Nat} {u : Tab}
end Go.Fv.Tr
namespace Go.Fv.Tr
open Go Go.Fv Go.Fv.Pl Go.Proofs
variable {G : GV}
variable {K H H3 : Heap} {lt : Nat} {u : Tab}
end Go.Fv.Tr
