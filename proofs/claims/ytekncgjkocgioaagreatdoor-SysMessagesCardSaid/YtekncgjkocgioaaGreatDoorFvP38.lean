/-
  port.Write. By an AI agent; no person has read it.
-/
import Derived.Test.YtekncgjkocgioaaGreatDoorFvP37
set_option linter.unusedVariables false
set_option linter.unusedSimpArgs false
set_option linter.unusedSectionVars false
/-! port.Write. -/
namespace Go.Fv.Tr
open Go Go.Fv Go.Fv.Pl Go.Proofs
variable {G:GV}
namespace Sy
variable {x:V} {H K:Heap} {q:Tp} {row:List V} {r:Po}
theorem clip_own {y:V} {rows:List (List V)} (h:Own H y 1 rows):∃ y',slV 1 y none (some (i64 (rows.length:Nat))) (some (i64 (rows.length:Nat))) = some y' ∧ Own H y' 1 rows ∧ ∀ l,loc y' = some l → loc y = some l:=by
 rcases h with ⟨rfl | rfl,rfl⟩ | ⟨l,n,c,ex,b,rfl,h1,h2,h3,h4,h5,rfl⟩
 ·exact ⟨.nils,rfl,Own.nils _ _,fun l h => h⟩
 ·exact ⟨.emp,rfl,Own.emp _ _,fun l h => h⟩
 ·have hn:(b.rows.take n).length = n:=by rw [List.length_take]; omega
  rw [hn]
  have h0:(0:Int) ≤ (n:Nat):=by omega
  by_cases hz:n = 0
  ·subst hz
   refine ⟨.emp,?_,.inl ⟨.inr rfl,rfl⟩,fun l h => by cases h⟩
   simp only [slV,optNat,natOf,if_pos h0,Option.bind_some,Int.toNat_natCast]
   simp
  ·refine ⟨.ref l 1 0 n n true,?_,.inr ⟨l,n,n,true,b,rfl,h1,h2,h3,Nat.le_refl _,by omega,rfl⟩,fun l h => h⟩
   simp only [slV,optNat,natOf,if_pos h0,Option.bind_some,Int.toNat_natCast]
   simp [h4,hz]
set_option maxRecDepth 20000 in
theorem add_run (hA:BErrs G) (n:Nat) (h:PoS row r) (hq:TpOk q) (h1:holdOk q r) (h2:ageOk q r) (hk:queT q) (hr:r.msgs.length * 16 + 16 ≤ room) {d:List UInt8} (hd:(d.length:Int) ≤ q.size) (hb:(r.msgs.length:Int) < q.depth) (hK:K.floor ≤ K.next) :
  Run (callV (cfg G) (sem (cfg G) (n + 6)) 145 [.agg (tpR q),.agg row,.str (bs d),.bool true]) K fun v K' => ∃ mv,v = .tuple [.agg [mv,i64 0],.nili] ∧ New K 1 ((r.msgs ++ [bs d]).map stR) mv K':=by
 have hck:=pcheck_spec (G:=G) hA n h hq h1 h2
 have hqu:=queT_spec (G:=G) (n + 4) q
 rw [decide_eq_true hk] at hqu
 obtain ⟨mv,rfl,hm,hl⟩:=h
 have hcl:(V.agg [mv,i64 r.age]).closedV = true:=by
  show ([mv,i64 r.age]:List V).all V.closed = true
  simp only [List.all_cons,List.all_nil,hm.closed]
  rfl
 have hct:(V.agg (tpR q)).closedV = true:=rfl
 refine callV_own rfl (mapM_closedV (by simp only [List.all_cons,List.all_nil,hcl,hct]; rfl) K) ?_
 rw [ferry_port_add_eq]
 simp only [ferry_port_add]
 have hlen:=hm.len
 rw [List.length_map] at hlen
 have t1:(tpR q)[1]? = some (i64 q.size):=rfl
 have t2:(tpR q)[2]? = some (i64 q.depth):=rfl
 have b1:decide (q.size < (d.length:Int)) = false:=by rw [decide_eq_false_iff_not]; omega
 have b2:((r.msgs.length:Int) == q.depth) = false:=by rw [beq_eq_false_iff_ne]; omega
 (repeat' (first | (simp only [wp,extractV,w0,reduceIte,Nat.reduceAdd,Nat.reduceLT,Nat.reduceLeDiff,Nat.reduceEqDiff,tp_len,tp_take,hck,eq_nili,str_len,t1,t2,b1,b2,hlen,hqu]) | (with_reducible ((first | apply xC | apply xG | apply xQ) <;> intro hb <;> try simp only [hb]))))
 generalize hH0:(((Heap.empty.add ⟨4,[tpR q]⟩).add ⟨2,[[mv,i64 r.age]]⟩).add ⟨2,[[.nils,.int .i64 0]]⟩) = H0
 have n0:H0.next = 3:=by rw [← hH0]; rfl
 have b2':H0.blk 2 = some ⟨2,[[.nils,.int .i64 0]]⟩:=by rw [← hH0]; rfl
 have fl0:H0.floor = 0:=by rw [← hH0]; rfl
 clear hH0
 refine (clone79 (n + 4) hm (flat_strs _) (by rw [List.length_map]; omega) (by omega)).mono fun y H1 ⟨o1,f1,l1⟩ => ?_
 have b2'':=(f1.old 2 (by omega) id).trans b2'
 have nx1:=f1.next
 have hy:=o1.len
 rw [List.length_map] at hy
 obtain ⟨y',c1,c2,c3⟩:=clip_own o1
 rw [List.length_map] at c1
 rw [callV_inl rfl,slices_Clip_string_string_eq]
 simp only [slices_Clip_string_string]
 (repeat' (first | (simp only [wp,extractV,w0,reduceIte,Nat.reduceAdd,Nat.reduceLT,Nat.reduceLeDiff,Nat.reduceEqDiff,hy,c1,Run.slice,fillRows,List.replicate_succ,List.replicate_zero,List.set_cons_zero]) | (with_reducible ((first | apply xC | apply xG | apply xQ) <;> intro hb <;> try simp only [hb]))))
 have f2:Frame H1 (H1.add ⟨1,[[.str (bs d)]]⟩) (fun _ => False):=Frame.add _ _
 have fl1:H1.floor = 0:=f1.floor.trans fl0
 refine (Run.app (items:=[[.str (bs d)]]) (by show H1.floor ≤ H1.next + 1; omega) (c2.frame f2 fun _ _ => id) (by simp [itemsV,Heap.add_blk]) (by rw [List.length_map,List.length_singleton]; omega)).mono fun z H3 ⟨o3,f3,l3⟩ => ?_
 have b3:H3.blk 2 = _:=(f3.old 2 (by show 2 < H1.next + 1; omega) fun e => by have:=l1 2 (c3 2 e); omega).trans ((f2.old 2 (by omega) id).trans b2'')
 have fl3:H3.floor ≤ 2:=by
  have h1:H3.floor = H1.floor:=f3.floor
  omega
 (repeat' (first | (simp only [wp,extractV,w0,reduceIte,Nat.reduceAdd,Nat.reduceLT,Nat.reduceLeDiff,Nat.reduceEqDiff,buildV,fill,putRow,o3.cells,b3,fl3,tupV]) | (with_reducible ((first | apply xC | apply xG | apply xQ) <;> intro hb <;> try simp only [hb]))))
 have e:List.map stR r.msgs ++ [[V.str (bs d)]] = (r.msgs ++ [bs d]).map stR:=by rw [List.map_append]; rfl
 rw [e] at o3
 obtain ⟨g,g1,g2⟩:=Own.handP (H:=K) (a:=0) (vs:=[.nili]) (o3.frame (Frame.set (H:=H3) ⟨2,[[z,i64 0]]⟩ 2 (p:=fun q => q = 2) rfl) fun k hk e => by
  subst e
  rcases l3 2 hk with h | h
  ·have:=l1 2 (c3 2 h)
   omega
  ·have h5:H1.next + 1 ≤ 2:=h
   omega) (flat_strs _) (by intro v hv; simp at hv; subst hv; rfl) hK
 exact ⟨g,g1,g2.mono fun v K' ⟨m',e,hn⟩ => ⟨m',e,hn⟩⟩
theorem NewT_q {v:Nat → Bool} {m:M V} {T:V → V} {sz:Nat} {rows:List (List V)} {Q:V → Heap → Prop} (hf:H.floor ≤ H.next)
  (h:∀ K:Heap,K.floor ≤ K.next → Run m K fun y K' => ∃ mv,y = T mv ∧ New K sz rows mv K')
  (q:∀ mv H',Own H' mv sz rows → Frame H H' (fun _ => False) → (∀ l,loc mv = some l → H.next ≤ l ∧ l < H'.next) → Q (T mv) H'):Run (qrun v m) H Q:=by
 refine Run.qrunI ((h ⟨fun l => if v l then H.blk l else none,H.next,H.next⟩ (Nat.le_refl _)).mono fun y K' ⟨mv,e,o,f,l⟩ => ?_)
 subst e
 have o':=Own.merge (H:=H) o f rfl l hf
 exact q mv _ o' ⟨f.next,rfl,fun l hl _ => if_pos hl⟩ fun n hn => ⟨l n hn,o'.loc_lt hn⟩
set_option maxRecDepth 20000 in
theorem pwrite_run (hA:BErrs G) (n:Nat) (h:PoS row r) (hq:TpOk q) (h1:holdOk q r) (h2:ageOk q r) (hk:q.kind = 4) (hr:r.msgs.length * 16 + 16 ≤ room) {d:List UInt8} (hd:(d.length:Int) ≤ q.size) (hb:(r.msgs.length:Int) < q.depth) (hK:K.floor ≤ K.next) :
  Run (callV (cfg G) (sem (cfg G) (n + 7)) 99 [.agg (tpR q),.agg row,.str (bs d)]) K fun v K' => ∃ mv,v = .tuple [.agg [mv,i64 0],.nili] ∧ New K 1 ((r.msgs ++ [bs d]).map stR) mv K':=by
 have hou:=outT_spec (G:=G) (n + 5) q
 rw [decide_eq_true (show outT q from .inr hk)] at hou
 have hadd:=fun K' hK' => add_run (G:=G) (K:=K') hA n h hq h1 h2 (.inr hk) hr hd hb hK'
 obtain ⟨mv,rfl,hm,hl⟩:=h
 have hcl:(V.agg [mv,i64 r.age]).closedV = true:=by
  show ([mv,i64 r.age]:List V).all V.closed = true
  simp only [List.all_cons,List.all_nil,hm.closed]
  rfl
 have hct:(V.agg (tpR q)).closedV = true:=rfl
 refine callV_own rfl (mapM_closedV (by simp only [List.all_cons,List.all_nil,hcl,hct]; rfl) K) ?_
 rw [ferry_port_Write_eq]
 simp only [ferry_port_Write]
 (repeat' (first | (simp only [wp,extractV,w0,reduceIte,Nat.reduceAdd,Nat.reduceLT,Nat.reduceLeDiff,Nat.reduceEqDiff,tp_len,tp_take,hou]) | (with_reducible ((first | apply xC | apply xG | apply xQ) <;> intro hb <;> try simp only [hb]))))
 refine NewT_q (T:=fun mv => .tuple [.agg [mv,i64 0],.nili]) (Nat.zero_le _) hadd fun mv' H1 o1 f1 l1 => ?_
 have b1:H1.blk 2 = some ⟨2,[[.nils,.int .i64 0]]⟩:=(f1.old 2 (show (2:Nat) < 3 from Nat.lt_succ_self 2) id).trans rfl
 have l1':∀ l,loc mv' = some l → 3 ≤ l:=fun l hl => (l1 l hl).1
 have fl1:H1.floor ≤ 2:=by rw [f1.floor]; exact Nat.zero_le _
 (repeat' (first | (simp only [wp,extractV,w0,reduceIte,Nat.reduceAdd,Nat.reduceLT,Nat.reduceLeDiff,Nat.reduceEqDiff,b1,fl1,tupV]) | (with_reducible ((first | apply xC | apply xG | apply xQ) <;> intro hb <;> try simp only [hb]))))
 obtain ⟨g,g1,g2⟩:=Own.handP (H:=K) (a:=0) (vs:=[.nili]) (o1.frame (Frame.set (H:=H1) ⟨2,[[mv',i64 0]]⟩ 2 (p:=fun q => q = 2) rfl) fun k hk e => by have:=l1' k hk; omega) (flat_strs _) (by intro v hv; simp at hv; subst hv; rfl) hK
 exact ⟨g,g1,g2.mono fun v K' ⟨m',e,hn⟩ => ⟨m',e,hn⟩⟩
end Sy
end Go.Fv.Tr
namespace Go.Fv.Tr
open Go Go.Fv Go.Fv.Pl Go.Proofs
variable {G:GV}
namespace Sy
variable {l m:List V} {s:St} {p:Pn} {x y z a b c d x' y' z' u v w g:V} {pr:List (List V)} {k:List V} {H H' K:Heap} {i:Nat} {pc tk ft:Int} {rep:V}
theorem own_some {xx:V} {sz:Nat} {rows:List (List V)} (h:Own H xx sz rows) {n:Nat} (hn:loc xx = some n):∃ b,H.blk n = some b:=by
 rcases h with ⟨rfl | rfl,_⟩ | ⟨l',n',c,ex,b,rfl,h1,_⟩
 ·cases hn
 ·cases hn
 ·cases hn; exact ⟨b,h1⟩
theorem ClX.some (h:ClX H i p s pc tk rep ft a b c d x y z u v w g pr) {n:Nat} (hn:n ∈ fp i x y z u v w g pr):∃ b,H.blk n = some b:=by
 obtain ⟨l,ms⟩:=h.ms
 rcases List.mem_cons.1 hn with rfl | hn
 ·exact ⟨_,h.blk⟩
 ·rcases List.mem_append.1 hn with hn | hn
  ·obtain ⟨q,hq,e⟩:=mem_lv.1 hn
   simp only [List.mem_cons,List.not_mem_nil,or_false] at hq
   rcases hq with rfl | rfl | rfl | rfl | rfl | rfl | rfl
   ·exact own_some ms.ps e
   ·exact own_some ms.q e
   ·exact own_some ms.ts e
   ·exact own_some ms.up e
   ·exact own_some ms.sems e
   ·exact own_some ms.ports e
   ·exact own_some ms.pages e
  ·obtain ⟨r,hr,e⟩:=List.mem_filterMap.1 hn
   obtain ⟨j,hj,rfl⟩:=List.mem_iff_getElem.1 hr
   obtain ⟨mm,er,ho,_⟩:=ms.row.row j hj
   rw [er] at e
   exact own_some ho e
set_option maxRecDepth 20000 in
theorem of_says (n:Nat) (hs:StS l s x y z u v w g pr) (hb:StB s):Says (cfg G) (sem (cfg G) (n + 2)) 135 [.agg l] fun r => ∃ a b c,r = .agg [a,b,c] ∧ IsTab a b c s.t:=by
 intro ok
 have hrb:=room_big
 obtain ⟨rfl,ht,-⟩:=hs
 rw [ferry_ready_Of_eq]
 simp only [ferry_ready_Of]
 (repeat' (first | (simp only [wp,extractV,w0,reduceIte,Nat.reduceAdd,Nat.reduceLT,Nat.reduceLeDiff,Nat.reduceEqDiff]) | (with_reducible ((first | apply xC | apply xG | apply xQ) <;> intro hb <;> try simp only [hb]))))
 generalize hH0:((Heap.empty.add ⟨10,[[i64 s.id,i64 s.fr,i64 s.ep,x,y,z,u,v,w,g]]⟩).add ⟨3,[[.nils,.nils,.nils]]⟩) = H0
 have e0:H0.next = 2:=by rw [← hH0]; rfl
 have b0:H0.blk 0 = some ⟨10,[[i64 s.id,i64 s.fr,i64 s.ep,x,y,z,u,v,w,g]]⟩:=by rw [← hH0]; rfl
 have b1:H0.blk 1 = some ⟨3,[[.nils,.nils,.nils]]⟩:=by rw [← hH0]; rfl
 have fl0:H0.floor = 0:=by rw [← hH0]; rfl
 clear hH0
 refine New_q (by omega) (fun K' hK' => clone72 (n + 0) ht.p (flat_prs _) (by simpa using hb.t.1) hK') fun x1 H1 o1 f1 l1 => ?_
 have b0:=(f1.old 0 (by omega) id).trans b0
 have b1:=(f1.old 1 (by omega) id).trans b1
 have fl1:=f1.floor.trans fl0
 have n1:=f1.next
 (repeat' (first | (simp only [wp,extractV,w0,reduceIte,Nat.reduceAdd,Nat.reduceLT,Nat.reduceLeDiff,Nat.reduceEqDiff,b0]) | (with_reducible ((first | apply xC | apply xG | apply xQ) <;> intro hb <;> try simp only [hb]))))
 refine New_q (by omega) (fun K' hK' => clone73 (n + 0) ht.q (flat_ints _) (by simpa using hb.t.2.1) hK') fun y1 H2 o2 f2 l2 => ?_
 have b0:=(f2.old 0 (by omega) id).trans b0
 have b1:=(f2.old 1 (by omega) id).trans b1
 have fl2:=f2.floor.trans fl1
 have n2:=f2.next
 (repeat' (first | (simp only [wp,extractV,w0,reduceIte,Nat.reduceAdd,Nat.reduceLT,Nat.reduceLeDiff,Nat.reduceEqDiff,b0]) | (with_reducible ((first | apply xC | apply xG | apply xQ) <;> intro hb <;> try simp only [hb]))))
 refine New_q (by omega) (fun K' hK' => clone74 (n + 0) ht.s (flat_tms _) (by simpa using hb.t.2.2) hK') fun z1 H3 o3 f3 l3 => ?_
 have b1:=(f3.old 1 (by omega) id).trans b1
 have fl3:=f3.floor.trans fl2
 have n3:=f3.next
 have fl3':H3.floor ≤ 1:=by omega
 (repeat' (first | (simp only [wp,extractV,w0,reduceIte,Nat.reduceAdd,Nat.reduceLT,Nat.reduceLeDiff,Nat.reduceEqDiff,b1,fl3',o1.cells,o2.cells,o3.cells,buildV,fill,putRow,tupV]) | (with_reducible ((first | apply xC | apply xG | apply xQ) <;> intro hb <;> try simp only [hb]))))
 have fz:Frame H3 (H3.set 1 ⟨3,[[x1,y1,z1]]⟩) (fun q => q = 1):=Frame.set _ _ rfl
 obtain ⟨p1,t1,s1⟩:=(((o1.frame f2 fun _ _ => id).frame f3 fun _ _ => id).frame fz fun q h1 h2 => by have:=l1 q h1; omega).thaw (flat_prs _) ok
 obtain ⟨p2,t2,s2⟩:=((o2.frame f3 fun _ _ => id).frame fz fun q h1 h2 => by have:=l2 q h1; omega).thaw (flat_ints _) ok
 obtain ⟨p3,t3,s3⟩:=(o3.frame fz fun q h1 h2 => by have:=l3 q h1; omega).thaw (flat_tms _) ok
 refine ⟨.agg [p1,p2,p3],?_,p1,p2,p3,rfl,s1,s2,s3,hb.wp,by have:=hb.t.1; omega,by have:=hb.t.2.1; omega,by have:=hb.t.2.2; omega⟩
 simp only [thawV,List.mapM_cons,List.mapM_nil,t1,t2,t3]
 rfl
set_option maxRecDepth 20000 in
theorem table_run (n:Nat) (h:ClX H i p s pc tk rep ft a b c d x y z u v w g pr) (hn:K.next = H.next) (hb:∀ q,q < H.next → K.blk q = H.blk q) (hK:K.floor ≤ K.next) :
  Run (callV (cfg G) (sem (cfg G) (n + 3)) 85 [.ptr i 0 0]) K fun r K' => (∃ a b c,r = .agg [a,b,c] ∧ IsTab a b c s.t) ∧ Frame K K' (fun _ => False):=by
 obtain ⟨l,ms⟩:=h.ms
 have hlt:=h.lt
 have hbi:K.blk i = _:=(hb i hlt).trans h.blk
 have hi:¬ (i = K.next):=by omega
 rw [callV_inl rfl,ferry_sys_caller_table_eq]
 simp only [ferry_sys_caller_table]
 (repeat' (first | (simp only [wp,extractV,w0,reduceIte,Nat.reduceAdd,Nat.reduceLT,Nat.reduceLeDiff,Nat.reduceEqDiff,hbi,nil_ptr,hi]) | (with_reducible ((first | apply xC | apply xG | apply xQ) <;> intro hb <;> try simp only [hb]))))
 obtain ⟨l',x',y',z',u',v',w',g',pr',e,hs⟩:=ms.thaw_in (K:=K.add ⟨3,[[.nils,.nils,.nils]]⟩) h.sb fun q hq => by rw [Heap.add_blk,if_neg (by omega)]; exact hb q hq
 rw [ms.eq] at e
 refine Run.ans rfl (bs:=[.agg l']) (by rw [List.mapM_cons,e]; rfl) (of_says n hs h.sb) fun r ⟨a1,b1,c1,er,ht⟩ => ?_
 subst er
 (repeat' (first | (simp only [wp,extractV,w0,reduceIte,Nat.reduceAdd,Nat.reduceLT,Nat.reduceLeDiff,Nat.reduceEqDiff,hK]) | (with_reducible ((first | apply xC | apply xG | apply xQ) <;> intro hb <;> try simp only [hb]))))
 exact ⟨⟨a1,b1,c1,rfl,ht⟩,(Frame.add _ _).st (Nat.le_refl _) _⟩
theorem own_fl {xx:V} {sz:Nat} {rows:List (List V)} (h:Own K xx sz rows) (hb:H.blk = K.blk) (hn:H.next = K.next) (hf:∀ n,loc xx = some n → H.floor ≤ n):Own H xx sz rows:=by
 rcases h with h | ⟨l',n',c,ex,b,rfl,h1,h2,h3,h4⟩
 ·exact .inl h
 ·exact .inr ⟨l',n',c,ex,b,rfl,by rw [hb]; exact h1,hf _ rfl,by rw [hn]; exact h3,h4⟩
theorem MS.fl (h:MS K l s x y z u v w g pr) (hb:H.blk = K.blk) (hn:H.next = K.next) (hf:∀ n ∈ lv [x,y,z,u,v,w,g] ++ lr pr,H.floor ≤ n):MS H l s x y z u v w g pr:=by
 have hl:∀ q ∈ [x,y,z,u,v,w,g],∀ n,loc q = some n → H.floor ≤ n:=fun q hq n hn => hf n (List.mem_append_left _ (mem_lv.2 ⟨q,hq,hn⟩))
 refine ⟨h.eq,own_fl h.ps hb hn (hl _ (by simp)),own_fl h.q hb hn (hl _ (by simp)),own_fl h.ts hb hn (hl _ (by simp)),own_fl h.up hb hn (hl _ (by simp)),own_fl h.sems hb hn (hl _ (by simp)),own_fl h.ports hb hn (hl _ (by simp)),own_fl h.pages hb hn (hl _ (by simp)),⟨h.row.len,fun j hj => ?_⟩,h.nd⟩
 obtain ⟨mm,er,ho,hl'⟩:=h.row.row j hj
 exact ⟨mm,er,own_fl ho hb hn fun n e => hf n (List.mem_append_right _ (List.mem_filterMap.2 ⟨_,List.getElem_mem hj,by rw [er]; exact e⟩)),hl'⟩
theorem q_newst {vis:Nat → Bool} {M0:M V} {s':St} (hv:∀ n,n < H.next → vis n = true) (hf:H.floor ≤ H.next)
  (h:∀ K:Heap,K.next = H.next → K.floor ≤ K.next → (∀ n,n < H.next → K.blk n = H.blk n) → Run M0 K (NewSt K s')) {Q:V → Heap → Prop} (q:∀ r H',NewSt H s' r H' → Q r H'):Run (qrun vis M0) H Q:=by
 refine Run.qAll (P:=fun r K' => ∃ l x y z u v w g pr,r = .agg l ∧ MS K' l s' x y z u v w g pr ∧ ∀ n ∈ lv [x,y,z,u,v,w,g] ++ lr pr,H.next ≤ n) hv (fun K k1 k2 k3 => ?_) fun r K' H' ⟨l,x,y,z,u,v,w,g,pr,e,ms,hge⟩ f hb hn => ?_
 ·refine (h K k1 k2 k3).mono fun r K' ⟨l,x,y,z,u,v,w,g,pr,e,ms,f,hge⟩ => ⟨f,l,x,y,z,u,v,w,g,pr,e,ms,fun n hn => ?_⟩
  rw [← k1]
  exact hge n hn
 ·refine q r H' ⟨l,x,y,z,u,v,w,g,pr,e,ms.fl hb hn fun n hn' => ?_,f,hge⟩
  rw [f.floor]
  exact Nat.le_trans hf (hge n hn')
theorem IsTab.bnd {t:Tab} (h:IsTab a b c t) (hl:t.ps.length ≤ 8 ∧ t.q.length ≤ 8 ∧ t.ts.length ≤ 8):TbB t:=⟨h.wp,by unfold room; omega,by unfold room; omega,by unfold room; omega⟩
theorem StB.tab {s:St} (h:StB s) {t:Tab} (ht:TbB t):StB { s with t:=t }:=⟨ht.1,ht.2,h.up,h.sems,h.ports,h.pages,h.msgs,h.data⟩
end Sy
end Go.Fv.Tr
namespace Go.Fv.Tr
open Go Go.Fv Go.Proofs
set_option maxRecDepth 20000
end Go.Fv.Tr
namespace Go.Fv.Tr
open Go Go.Fv Go.Fv.Pl Go.Proofs
variable {G:GV}
end Go.Fv.Tr
namespace Go.Fv.Tr
open Go Go.Fv Go.Proofs
set_option maxRecDepth 20000
end Go.Fv.Tr
namespace Go.Fv.Tr
open Go Go.Fv Go.Fv.Pl Go.Proofs
variable {G:GV}
end Go.Fv.Tr
namespace Go.Fv.Tr
open Go Go.Fv Go.Fv.Pl Go.Proofs
variable {G:GV}
variable {K H H3:Heap} {lt:Nat} {u:Tab}
end Go.Fv.Tr
namespace Go.Fv.Tr
open Go Go.Fv Go.Fv.Pl Go.Proofs
variable {G:GV}
variable {K H H3:Heap} {lt:Nat} {u:Tab}
end Go.Fv.Tr
namespace Go.Fv.Tr
open Go Go.Fv Go.Fv.Pl Go.Proofs
variable {G:GV}
namespace Sy
variable {l m:List V} {s:St} {p:Pn} {x y z a b c d x' y' z' u v w g:V} {pr:List (List V)} {k:List V} {H H' K:Heap} {i:Nat} {pc tk ft:Int} {rep:V}
def doWait (s:St) (pc tk wk o:Int):St :=
 if regAt s pc 2 = 0 then setR s pc 1 4294967294 else { s with t:=Tab.block s.t pc wk o (if regAt s pc 2 = 4294967295 then -1 else tk + regAt s pc 2) }
structure Can (s:St) (pc tk:Int):Prop where
 ok:TabOk s.t
 run:(at? s.t.ps pc).map Pr.state = some 1
 tk:0 ≤ tk ∧ tk ≤ 10000
 reg:∀ k,k < 16 → RegOk (regAt s pc k)
theorem Ans.yes {t u:Tab} {ok:Prop} {r:V} (h:Ans t ok u r) (h1:TabOk t) (h2:ok):∃ a b c,r = .tuple [.agg [a,b,c],.nili] ∧ IsTab a b c u:=by
 rcases h with ⟨_,_,h⟩ | ⟨g,_⟩ | ⟨_,g,_⟩
 ·exact h
 ·exact absurd h1 g
 ·exact absurd h2 g
theorem Can.block {pc tk wk o d:Int} (h:Can s pc tk) (hb:blkOk wk o d):TabOk (Tab.block s.t pc wk o d):=by
 obtain ⟨q,h1,h2⟩:=Option.map_eq_some_iff.1 h.run
 exact TabOk.block h.ok h1 h2 hb
theorem cl_comp {F F1:List Nat} {s2:St} {H1 H2:Heap} {rep2:V} {ft2:Int} (hf1:∀ n ∈ F1,n ∈ F ∨ H.next ≤ n) (f1:Frame H H1 (fun n => n ∈ F)) (h2:Cl H1 i p s2 pc tk rep2 ft2 F1 H2):Cl H i p s2 pc tk rep2 ft2 F H2:=by
 obtain ⟨a2,b2,c2,d2,x2,y2,z2,u2,v2,w2,g2,pr2,hx2,hf2,f2⟩:=h2
 have hn:=f1.next
 refine ⟨a2,b2,c2,d2,x2,y2,z2,u2,v2,w2,g2,pr2,hx2,fun n hn' => ?_,⟨Nat.le_trans f1.next f2.next,f2.floor.trans f1.floor,fun n hn' hne => ?_⟩⟩
 ·rcases hf2 n hn' with h | h
  ·exact hf1 n h
  ·exact .inr (by omega)
 ·refine (f2.old n (by omega) fun g => ?_).trans (f1.old n hn' hne)
  rcases hf1 n g with h | h
  ·exact hne h
  ·omega
end Sy
end Go.Fv.Tr
