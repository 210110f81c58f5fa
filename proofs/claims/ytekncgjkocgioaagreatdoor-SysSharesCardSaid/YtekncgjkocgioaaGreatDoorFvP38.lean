/-
  ready.Into, ready.Of, the state's table changed. By an AI agent; no person has read it.
-/
import Derived.Test.YtekncgjkocgioaaGreatDoorFvP37
set_option linter.unusedVariables false
set_option linter.unusedSimpArgs false
set_option linter.unusedSectionVars false
/-! ready.Into, ready.Of, the state's table changed. -/
namespace Go.Fv.Tr
open Go Go.Fv Go.Fv.Pl Go.Proofs
variable {G:GV}
namespace Sy
variable {l m:List V} {s:St} {p:Pn} {x y z a b c d x' y' z' u v w g:V} {pr:List (List V)} {k:List V} {H H' K:Heap}
structure Cx (H:Heap) (row:List V):Prop where
 fl:H.floor = 0
 nx:3 ≤ H.next
 b0:H.blk 0 = some ⟨10,[row]⟩
 b2:∃ z,H.blk 2 = some ⟨10,[z]⟩ ∧ z.length = 10
theorem Cx.keep {row:List V} (h:Cx H row) {P:Nat → Prop} (f:Frame H H' P) (hp:∀ m,P m → 3 ≤ m):Cx H' row:=by
 have:=h.nx
 obtain ⟨z,h1,h2⟩:=h.b2
 exact ⟨f.floor.trans h.fl,Nat.le_trans h.nx f.next,(f.old 0 (by omega) fun g => by have:=hp _ g; omega).trans h.b0,z,(f.old 2 (by omega) fun g => by have:=hp _ g; omega).trans h1,h2⟩
theorem Cx.put {row:List V} (h:Cx H row) (row':List V):Cx (H.set 0 ⟨10,[row']⟩) row':=by
 obtain ⟨z,h1,h2⟩:=h.b2
 exact ⟨h.fl,h.nx,by rw [Heap.set_blk,if_pos rfl],z,by rw [Heap.set_blk,if_neg (by decide)]; exact h1,h2⟩
def TbB (t:Tab):Prop:=(∀ p ∈ t.ps,Wp p) ∧ t.ps.length * 104 ≤ room ∧ t.q.length * 8 ≤ room ∧ t.ts.length * 16 ≤ room
theorem copied_any (n:Nat) {t:Tab} (h:IsTab a b c t) (hb:TbB t) {H:Heap} (hH:H.floor ≤ H.next) :
  Run (callV (cfg G) (sem (cfg G) (n + 2)) 138 [.agg [a,b,c]]) H (NewTab H t):=copied_spec n h ⟨hb.2.1,hb.2.2.1,hb.2.2.2⟩ hH
theorem nd_of3 {n3 n4 n5 n6 n7:Nat} (hxy:∀ l,loc x = some l → loc y ≠ some l) (hxz:∀ l,loc x = some l → loc z ≠ some l) (hyz:∀ l,loc y = some l → loc z ≠ some l)
  (bx:∀ l,loc x = some l → l < n3) (bY:∀ l,loc y = some l → l < n3) (bz:∀ l,loc z = some l → l < n3) (bu:∀ l,loc u = some l → n3 ≤ l ∧ l < n4)
  (bv:∀ l,loc v = some l → n4 ≤ l ∧ l < n5) (bg:∀ l,loc g = some l → n5 ≤ l ∧ l < n6) (bw:∀ l,loc w = some l → n6 ≤ l ∧ l < n7) (bp:∀ l ∈ lr pr,n7 ≤ l) (hp:(lr pr).Nodup)
  (hn:n3 ≤ n4 ∧ n4 ≤ n5 ∧ n5 ≤ n6 ∧ n6 ≤ n7):(lv [x,y,z,u,v,w,g] ++ lr pr).Nodup:=by
 simp only [lv_cons,show lv [] = [] from rfl,List.append_nil,List.append_assoc,List.nodup_append]
 simp only [List.mem_append,Option.mem_toList,Option.mem_def]
 have nt:∀ q:V,(loc q).toList.Nodup:=fun q => by cases loc q <;> simp
 refine ⟨nt _,⟨nt _,⟨nt _,⟨nt _,⟨nt _,⟨nt _,⟨nt _,hp,?_⟩,?_⟩,?_⟩,?_⟩,?_⟩,?_⟩,?_⟩
 ·intro i hi j hj e
  subst e
  have:=bg i hi
  have:=bp i hj
  omega
 ·intro i hi j hj e
  subst e
  have:=bw i hi
  repeat' (rcases hj with hj | hj)
  all_goals first
   | (have:=bg i hj; omega)
   | (have:=bp i hj; omega)
 ·intro i hi j hj e
  subst e
  have:=bv i hi
  repeat' (rcases hj with hj | hj)
  all_goals first
   | (have:=bw i hj; omega)
   | (have:=bg i hj; omega)
   | (have:=bp i hj; omega)
 ·intro i hi j hj e
  subst e
  have:=bu i hi
  repeat' (rcases hj with hj | hj)
  all_goals first
   | (have:=bv i hj; omega)
   | (have:=bw i hj; omega)
   | (have:=bg i hj; omega)
   | (have:=bp i hj; omega)
 ·intro i hi j hj e
  subst e
  have:=bz i hi
  repeat' (rcases hj with hj | hj)
  all_goals first
   | (have:=bu i hj; omega)
   | (have:=bv i hj; omega)
   | (have:=bw i hj; omega)
   | (have:=bg i hj; omega)
   | (have:=bp i hj; omega)
 ·intro i hi j hj e
  subst e
  have:=bY i hi
  repeat' (rcases hj with hj | hj)
  all_goals first
   | exact hyz i hi hj
   | (have:=bu i hj; omega)
   | (have:=bv i hj; omega)
   | (have:=bw i hj; omega)
   | (have:=bg i hj; omega)
   | (have:=bp i hj; omega)
 ·intro i hi j hj e
  subst e
  have:=bx i hi
  repeat' (rcases hj with hj | hj)
  all_goals first
   | exact hxy i hi hj
   | exact hxz i hi hj
   | (have:=bu i hj; omega)
   | (have:=bv i hj; omega)
   | (have:=bw i hj; omega)
   | (have:=bg i hj; omega)
   | (have:=bp i hj; omega)
set_option maxRecDepth 20000 in
set_option maxHeartbeats 1000000 in
theorem into_new (n:Nat) (hs:StS l s x y z u v w g pr) (hb:StB s) {t:Tab} (ht:IsTab a b c t) (htb:TbB t) (hK:K.floor ≤ K.next) :
  Run (callV (cfg G) (sem (cfg G) (n + 3)) 132 [.agg l,.agg [a,b,c]]) K (NewSt K { s with t:=t }):=by
 refine callV_own rfl (mapM_closedV (by simp [hs.closedV,ht.closed]) K) ?_
 have hpl:=hs.plen
 have hprow:∀ (j:Nat) (hj:j < pr.length) (hp:j < s.ports.length),PoS pr[j] s.ports[j]:=fun j hj _ => hs.prow j hj
 have hrb:=room_big
 obtain ⟨rfl,ht0,hup,hsm,hpo,hpg,-,-,-,-⟩:=hs
 rw [ferry_ready_Into_eq]
 simp only [ferry_ready_Into]
 have zf:∀ {K:Heap} {row:List V},Cx K row → K.floor ≤ K.next:=fun h => by rw [h.fl]; exact Nat.zero_le _
 have no2:∀ m:Nat,False → 3 ≤ m:=fun _ h => h.elim
 (repeat' (first | (simp only [wp,extractV,w0,reduceIte,Nat.reduceAdd,Nat.reduceLT,Nat.reduceLeDiff,Nat.reduceEqDiff]) | (with_reducible ((first | apply xC | apply xG | apply xQ) <;> intro hb <;> try simp only [hb]))))
 have c0:Cx (((Heap.empty.add ⟨10,[[i64 s.id,i64 s.fr,i64 s.ep,x,y,z,u,v,w,g]]⟩).add ⟨3,[[a,b,c]]⟩).add ⟨10,[[.int .i64 0,.int .i64 0,.int .i64 0,.nils,.nils,.nils,.nils,.nils,.nils,.nils]]⟩) [i64 s.id,i64 s.fr,i64 s.ep,x,y,z,u,v,w,g] :=
  ⟨rfl,Nat.le_refl _,rfl,_,rfl,rfl⟩
 have e0:(((Heap.empty.add ⟨10,[[i64 s.id,i64 s.fr,i64 s.ep,x,y,z,u,v,w,g]]⟩).add ⟨3,[[a,b,c]]⟩).add ⟨10,[[.int .i64 0,.int .i64 0,.int .i64 0,.nils,.nils,.nils,.nils,.nils,.nils,.nils]]⟩).next = 3:=rfl
 generalize (((Heap.empty.add ⟨10,[[i64 s.id,i64 s.fr,i64 s.ep,x,y,z,u,v,w,g]]⟩).add ⟨3,[[a,b,c]]⟩).add ⟨10,[[.int .i64 0,.int .i64 0,.int .i64 0,.nils,.nils,.nils,.nils,.nils,.nils,.nils]]⟩) = H0 at *
 refine (copied_any n ht htb (zf c0)).mono fun q H1 ⟨x1,y1,z1,eq1,ot,f1,lt⟩ => ?_
 subst eq1
 have c1:=c0.keep f1 no2
 have nx1:=c1.nx
 have bb:∀ m,(loc x1 = some m ∨ loc y1 = some m ∨ loc z1 = some m) → 3 ≤ m ∧ m < H1.next:=fun m hm => ⟨by have:=lt m hm; omega,Or.elim hm (fun h => ot.p.loc_lt h) fun h => Or.elim h (fun h => ot.q.loc_lt h) fun h => ot.s.loc_lt h⟩
 have B1:Bd H1 x1 21 _ 3 H1.next:=⟨ot.p,fun m h => bb m (.inl h)⟩
 have B2:Bd H1 y1 1 _ 3 H1.next:=⟨ot.q,fun m h => bb m (.inr (.inl h))⟩
 have B3:Bd H1 z1 2 _ 3 H1.next:=⟨ot.s,fun m h => bb m (.inr (.inr h))⟩
 have m1:¬ (H1.next = 0):=by omega
 have m2:¬ (0 = H1.next):=by omega
 have m3:decide (H1.next ≠ 0) = true:=by simpa using m1
 (repeat' (first | (simp only [wp,extractV,w0,reduceIte,Nat.reduceAdd,Nat.reduceLT,Nat.reduceLeDiff,Nat.reduceEqDiff,c1.fl,c1.b0,m1,m2,m3,apartV,ot.p.cells,ot.q.cells,ot.s.cells,Heap.set_set,Bool.and_self,Bool.and_true]) | (with_reducible ((first | apply xC | apply xG | apply xQ) <;> intro hb <;> try simp only [hb]))))
 have fa:Frame H1 (((H1.add ⟨3,[[.nils,.nils,.nils]]⟩).set H1.next ⟨3,[[x1,y1,z1]]⟩).set 0 ⟨10,[[i64 s.id,i64 s.fr,i64 s.ep,x1,y1,z1,u,v,w,g]]⟩) (fun m => m = 0) :=
  ⟨Nat.le_succ _,rfl,fun q hq hne => by rw [Heap.set_blk,if_neg hne,Heap.set_blk,if_neg (by omega),Heap.add_blk,if_neg (by omega)]⟩
 have c2:Cx (((H1.add ⟨3,[[.nils,.nils,.nils]]⟩).set H1.next ⟨3,[[x1,y1,z1]]⟩).set 0 ⟨10,[[i64 s.id,i64 s.fr,i64 s.ep,x1,y1,z1,u,v,w,g]]⟩) [i64 s.id,i64 s.fr,i64 s.ep,x1,y1,z1,u,v,w,g]:=by
  obtain ⟨z2,h1,h2⟩:=c1.b2
  exact ⟨c1.fl,Nat.le_trans nx1 (Nat.le_succ _),by rw [Heap.set_blk,if_pos rfl],z2,(fa.old 2 (by omega) (by decide)).trans h1,h2⟩
 have B1:=B1.keep fa fun m e => by omega
 have B2:=B2.keep fa fun m e => by omega
 have B3:=B3.keep fa fun m e => by omega
 have e2:(((H1.add ⟨3,[[.nils,.nils,.nils]]⟩).set H1.next ⟨3,[[x1,y1,z1]]⟩).set 0 ⟨10,[[i64 s.id,i64 s.fr,i64 s.ep,x1,y1,z1,u,v,w,g]]⟩).next = H1.next + 1:=rfl
 generalize (((H1.add ⟨3,[[.nils,.nils,.nils]]⟩).set H1.next ⟨3,[[x1,y1,z1]]⟩).set 0 ⟨10,[[i64 s.id,i64 s.fr,i64 s.ep,x1,y1,z1,u,v,w,g]]⟩) = H2 at *
 clear fa
 refine (clone76 (n + 1) hup (flat_bos _) (by simpa using hb.up) (zf c2)).mono fun u1 J2 ⟨o2,f2,l2⟩ => ?_
 have d2:=c2.keep f2 no2
 have n2:=f2.next
 have A2:Bd J2 u1 1 _ H2.next J2.next:=⟨o2,fun m hm => ⟨l2 m hm,o2.loc_lt hm⟩⟩
 have B1:=B1.fr f2
 have B2:=B2.fr f2
 have B3:=B3.fr f2
 (repeat' (first | (simp only [wp,extractV,w0,reduceIte,Nat.reduceAdd,Nat.reduceLT,Nat.reduceLeDiff,Nat.reduceEqDiff,d2.fl,d2.b0,o2.cells,Heap.set_set]) | (with_reducible ((first | apply xC | apply xG | apply xQ) <;> intro hb <;> try simp only [hb]))))
 have c3:=d2.put [i64 s.id,i64 s.fr,i64 s.ep,x1,y1,z1,u1,v,w,g]
 have B1:=B1.st (n:=0) (by omega) ⟨10,[[i64 s.id,i64 s.fr,i64 s.ep,x1,y1,z1,u1,v,w,g]]⟩
 have B2:=B2.st (n:=0) (by omega) ⟨10,[[i64 s.id,i64 s.fr,i64 s.ep,x1,y1,z1,u1,v,w,g]]⟩
 have B3:=B3.st (n:=0) (by omega) ⟨10,[[i64 s.id,i64 s.fr,i64 s.ep,x1,y1,z1,u1,v,w,g]]⟩
 have A2:=A2.st (n:=0) (by omega) ⟨10,[[i64 s.id,i64 s.fr,i64 s.ep,x1,y1,z1,u1,v,w,g]]⟩
 have e3:(J2.set 0 ⟨10,[[i64 s.id,i64 s.fr,i64 s.ep,x1,y1,z1,u1,v,w,g]]⟩).next = J2.next:=rfl
 generalize J2.set 0 ⟨10,[[i64 s.id,i64 s.fr,i64 s.ep,x1,y1,z1,u1,v,w,g]]⟩ = H3 at *
 refine (clone73 (n + 1) hsm (flat_ints _) (by simpa using hb.sems) (zf c3)).mono fun v1 J3 ⟨o3,f3,l3⟩ => ?_
 have d3:=c3.keep f3 no2
 have n3:=f3.next
 have A3:Bd J3 v1 1 _ H3.next J3.next:=⟨o3,fun m hm => ⟨l3 m hm,o3.loc_lt hm⟩⟩
 have B1:=B1.fr f3
 have B2:=B2.fr f3
 have B3:=B3.fr f3
 have A2:=A2.fr f3
 (repeat' (first | (simp only [wp,extractV,w0,reduceIte,Nat.reduceAdd,Nat.reduceLT,Nat.reduceLeDiff,Nat.reduceEqDiff,d3.fl,d3.b0,o3.cells,Heap.set_set]) | (with_reducible ((first | apply xC | apply xG | apply xQ) <;> intro hb <;> try simp only [hb]))))
 have c4:=d3.put [i64 s.id,i64 s.fr,i64 s.ep,x1,y1,z1,u1,v1,w,g]
 have B1:=B1.st (n:=0) (by omega) ⟨10,[[i64 s.id,i64 s.fr,i64 s.ep,x1,y1,z1,u1,v1,w,g]]⟩
 have B2:=B2.st (n:=0) (by omega) ⟨10,[[i64 s.id,i64 s.fr,i64 s.ep,x1,y1,z1,u1,v1,w,g]]⟩
 have B3:=B3.st (n:=0) (by omega) ⟨10,[[i64 s.id,i64 s.fr,i64 s.ep,x1,y1,z1,u1,v1,w,g]]⟩
 have A2:=A2.st (n:=0) (by omega) ⟨10,[[i64 s.id,i64 s.fr,i64 s.ep,x1,y1,z1,u1,v1,w,g]]⟩
 have A3:=A3.st (n:=0) (by omega) ⟨10,[[i64 s.id,i64 s.fr,i64 s.ep,x1,y1,z1,u1,v1,w,g]]⟩
 have e4:(J3.set 0 ⟨10,[[i64 s.id,i64 s.fr,i64 s.ep,x1,y1,z1,u1,v1,w,g]]⟩).next = J3.next:=rfl
 generalize J3.set 0 ⟨10,[[i64 s.id,i64 s.fr,i64 s.ep,x1,y1,z1,u1,v1,w,g]]⟩ = H4 at *
 refine (clone77 (n + 1) hpg (flat_pas _) (by simpa using hb.pages) (zf c4)).mono fun g1 J4 ⟨o4,f4,l4⟩ => ?_
 have d4:=c4.keep f4 no2
 have n4:=f4.next
 have A4:Bd J4 g1 66 _ H4.next J4.next:=⟨o4,fun m hm => ⟨l4 m hm,o4.loc_lt hm⟩⟩
 have B1:=B1.fr f4
 have B2:=B2.fr f4
 have B3:=B3.fr f4
 have A2:=A2.fr f4
 have A3:=A3.fr f4
 (repeat' (first | (simp only [wp,extractV,w0,reduceIte,Nat.reduceAdd,Nat.reduceLT,Nat.reduceLeDiff,Nat.reduceEqDiff,d4.fl,d4.b0,o4.cells,Heap.set_set]) | (with_reducible ((first | apply xC | apply xG | apply xQ) <;> intro hb <;> try simp only [hb]))))
 have c5:=d4.put [i64 s.id,i64 s.fr,i64 s.ep,x1,y1,z1,u1,v1,w,g1]
 have B1:=B1.st (n:=0) (by omega) ⟨10,[[i64 s.id,i64 s.fr,i64 s.ep,x1,y1,z1,u1,v1,w,g1]]⟩
 have B2:=B2.st (n:=0) (by omega) ⟨10,[[i64 s.id,i64 s.fr,i64 s.ep,x1,y1,z1,u1,v1,w,g1]]⟩
 have B3:=B3.st (n:=0) (by omega) ⟨10,[[i64 s.id,i64 s.fr,i64 s.ep,x1,y1,z1,u1,v1,w,g1]]⟩
 have A2:=A2.st (n:=0) (by omega) ⟨10,[[i64 s.id,i64 s.fr,i64 s.ep,x1,y1,z1,u1,v1,w,g1]]⟩
 have A3:=A3.st (n:=0) (by omega) ⟨10,[[i64 s.id,i64 s.fr,i64 s.ep,x1,y1,z1,u1,v1,w,g1]]⟩
 have A4:=A4.st (n:=0) (by omega) ⟨10,[[i64 s.id,i64 s.fr,i64 s.ep,x1,y1,z1,u1,v1,w,g1]]⟩
 have e5:(J4.set 0 ⟨10,[[i64 s.id,i64 s.fr,i64 s.ep,x1,y1,z1,u1,v1,w,g1]]⟩).next = J4.next:=rfl
 generalize J4.set 0 ⟨10,[[i64 s.id,i64 s.fr,i64 s.ep,x1,y1,z1,u1,v1,w,g1]]⟩ = H5 at *
 refine (clone78 (n + 1) (.inl hpo) (by rw [hpl]; exact hb.ports) (zf c5)).mono fun w1 J5 ⟨o5,f5,l5⟩ => ?_
 have d5:=c5.keep f5 no2
 have n5:=f5.next
 have A5:Bd J5 w1 2 _ H5.next J5.next:=⟨o5,fun m hm => ⟨l5 m hm,o5.loc_lt hm⟩⟩
 have B1:=B1.fr f5
 have B2:=B2.fr f5
 have B3:=B3.fr f5
 have A2:=A2.fr f5
 have A3:=A3.fr f5
 have A4:=A4.fr f5
 (repeat' (first | (simp only [wp,extractV,w0,reduceIte,Nat.reduceAdd,Nat.reduceLT,Nat.reduceLeDiff,Nat.reduceEqDiff,d5.fl,d5.b0,o5.cells,Heap.set_set,o5.len,hpl]) | (with_reducible ((first | apply xC | apply xG | apply xQ) <;> intro hb <;> try simp only [hb]))))
 have c6:=d5.put [i64 s.id,i64 s.fr,i64 s.ep,x1,y1,z1,u1,v1,w1,g1]
 have B1:=B1.st (n:=0) (by omega) ⟨10,[[i64 s.id,i64 s.fr,i64 s.ep,x1,y1,z1,u1,v1,w1,g1]]⟩
 have B2:=B2.st (n:=0) (by omega) ⟨10,[[i64 s.id,i64 s.fr,i64 s.ep,x1,y1,z1,u1,v1,w1,g1]]⟩
 have B3:=B3.st (n:=0) (by omega) ⟨10,[[i64 s.id,i64 s.fr,i64 s.ep,x1,y1,z1,u1,v1,w1,g1]]⟩
 have A2:=A2.st (n:=0) (by omega) ⟨10,[[i64 s.id,i64 s.fr,i64 s.ep,x1,y1,z1,u1,v1,w1,g1]]⟩
 have A3:=A3.st (n:=0) (by omega) ⟨10,[[i64 s.id,i64 s.fr,i64 s.ep,x1,y1,z1,u1,v1,w1,g1]]⟩
 have A4:=A4.st (n:=0) (by omega) ⟨10,[[i64 s.id,i64 s.fr,i64 s.ep,x1,y1,z1,u1,v1,w1,g1]]⟩
 have A5:=A5.st (n:=0) (by omega) ⟨10,[[i64 s.id,i64 s.fr,i64 s.ep,x1,y1,z1,u1,v1,w1,g1]]⟩
 have e6:(J5.set 0 ⟨10,[[i64 s.id,i64 s.fr,i64 s.ep,x1,y1,z1,u1,v1,w1,g1]]⟩).next = J5.next:=rfl
 generalize J5.set 0 ⟨10,[[i64 s.id,i64 s.fr,i64 s.ep,x1,y1,z1,u1,v1,w1,g1]]⟩ = H6 at *
 refine Run.loop (N:=s.ports.length) (fun k st Hk => st = [i64 k] ∧ ∃ rk,Cx Hk [i64 s.id,i64 s.fr,i64 s.ep,x1,y1,z1,u1,v1,w1,g1] ∧ Bd Hk w1 2 rk H5.next J5.next ∧ Lp Hk s.ports pr rk k J5.next ∧ J5.next ≤ Hk.next ∧
   Bd Hk x1 21 (t.ps.map prRow) 3 H1.next ∧ Bd Hk y1 1 (t.q.map intRow) 3 H1.next ∧ Bd Hk z1 2 (t.ts.map tmRow) 3 H1.next ∧ Bd Hk u1 1 (s.up.map boR) H2.next J2.next ∧ Bd Hk v1 1 (s.sems.map intRow) H3.next J3.next ∧ Bd Hk g1 66 (s.pages.map paR) H4.next J4.next)
  ⟨rfl,pr,c6,A5,Lp.start hpl _,by omega,B1,B2,B3,A2,A3,A4⟩ ?_
 rintro k st Hk hk ⟨rfl,rk,ck,BW,lp,hnk,A1,A2,A3,A5,A6,A8⟩
 simp only [ferry_ready_Into_l1]
 by_cases hlt:k < s.ports.length
 ·have hkr:k < rk.length:=by rw [lp.len]; exact hlt
  have hkp:k < pr.length:=by omega
  obtain ⟨mm,em,hm,hmb⟩:=hprow k hkp hlt
  have erk:rk[k] = [mm,i64 s.ports[k].age]:=(lp.rest k hkr hkp (Nat.le_refl _)).trans em
  obtain ⟨lP,bP,hlP,hidx,hblk,hrow,hflo⟩:=BW.own.idx (k:=.i64) hkr
  rw [erk] at hrow
  have hPb:=BW.b _ hlP
  have hms:=hb.msgs _ (List.getElem_mem hlt)
  (repeat' (first | (simp only [wp,extractV,w0,reduceIte,Nat.reduceAdd,Nat.reduceLT,Nat.reduceLeDiff,Nat.reduceEqDiff,ltT hlt,ck.fl,ck.b0,hidx,hblk,hrow]) | (with_reducible ((first | apply xC | apply xG | apply xQ) <;> intro hb <;> try simp only [hb]))))
  refine New_q (zf ck) (fun K' hK' => clone79 (n + 1) hm (flat_strs _) (by simpa using hms) hK') fun mv Hn om fm bm => ?_
  have cn:=ck.keep fm no2
  have hblk1:Hn.blk lP = some bP:=(fm.old _ (by omega) id).trans hblk
  have fl0:Hn.floor ≤ lP:=by rw [cn.fl]; exact Nat.zero_le _
  (repeat' (first | (simp only [wp,extractV,w0,reduceIte,Nat.reduceAdd,Nat.reduceLT,Nat.reduceLeDiff,Nat.reduceEqDiff,fl0,om.cells,hblk1,hrow,addN hlt (show s.ports.length ≤ big by have:=hb.ports; omega)]) | (with_reducible ((first | apply xC | apply xG | apply xQ) <;> intro hb <;> try simp only [hb]))))
  have hset:Frame Hn (Hn.set lP ⟨bP.sz,bP.rows.set k [mv,i64 s.ports[k].age]⟩) (fun m => m = lP):=Frame.set _ _ rfl
  have fb:Frame Hk (Hn.set lP ⟨bP.sz,bP.rows.set k [mv,i64 s.ports[k].age]⟩) (fun m => m = lP):=⟨fm.next,fm.floor,fun q hq hne => (hset.old q (Nat.lt_of_lt_of_le hq fm.next) hne).trans (fm.old q hq id)⟩
  have nm:=fm.next
  refine ⟨hlt,rk.set k [mv,i64 s.ports[k].age],cn.keep hset fun q e => by omega,⟨((BW.fr fm).own).put hlP hblk1 _,BW.b⟩,lp.next hkr fb (by omega) (by omega) (om.frame hset fun q h1 h2 => by have:=bm q h1; omega) hmb fun q h1 => bm q h1,by show J5.next ≤ Hn.next; omega,
   A1.keep fb fun q e => by omega,A2.keep fb fun q e => by omega,A3.keep fb fun q e => by omega,A5.keep fb fun q e => by omega,A6.keep fb fun q e => by omega,A8.keep fb fun q e => by omega⟩
 ·obtain ⟨r1,hr1,hl1⟩:=ck.b2
  have z10:10 ≤ r1.length:=by omega
  have dp:r1.drop 10 = []:=List.drop_of_length_le (by omega)
  (repeat' (first | (simp only [wp,extractV,w0,reduceIte,Nat.reduceAdd,Nat.reduceLT,Nat.reduceLeDiff,Nat.reduceEqDiff,ltF hlt,ck.b0,ck.fl,hr1,z10,dp,tupV]) | (with_reducible ((first | apply xC | apply xG | apply xQ) <;> intro hb <;> try simp only [hb]))))
  obtain ⟨P1,P2,P3⟩:=lp.all (by omega)
  have fz:Frame Hk (Hk.set 2 ⟨10,[[i64 s.id,i64 s.fr,i64 s.ep,x1,y1,z1,u1,v1,w1,g1]]⟩) (fun m => m = 2):=Frame.set _ _ rfl
  have ms:MS (Hk.set 2 ⟨10,[[i64 s.id,i64 s.fr,i64 s.ep,x1,y1,z1,u1,v1,w1,g1]]⟩) [i64 s.id,i64 s.fr,i64 s.ep,x1,y1,z1,u1,v1,w1,g1] { s with t:=t } x1 y1 z1 u1 v1 w1 g1 rk :=
   ⟨rfl,(A1.keep fz fun q e => by omega).own,(A2.keep fz fun q e => by omega).own,(A3.keep fz fun q e => by omega).own,(A5.keep fz fun q e => by omega).own,(A6.keep fz fun q e => by omega).own,(BW.keep fz fun q e => by omega).own,(A8.keep fz fun q e => by omega).own,
    P1.frame fz fun q h1 h2 => by have:=P3 q h1; omega,nd_of3 ot.pq ot.ps ot.qs (fun q hq => (A1.b q hq).2) (fun q hq => (A2.b q hq).2) (fun q hq => (A3.b q hq).2) (n3:=H1.next) (n4:=J2.next) (n5:=J3.next) (n6:=J4.next) (n7:=J5.next) (fun q hq => by have:=A5.b q hq; omega) (fun q hq => by have:=A6.b q hq; omega) (fun q hq => by have:=A8.b q hq; omega) (fun q hq => by have:=BW.b q hq; omega) (fun q hq => (P3 q hq).1) P2 (by omega)⟩
  obtain ⟨r,h1,h2⟩:=ms.hand
  refine ⟨r,h1,(h2 K hK).mono fun vv K' ⟨l',x',y',z',u',v',w',g',pr',e,h3,h4,h5⟩ => ?_⟩
  exact ⟨l',x',y',z',u',v',w',g',pr',e,h3,h4,h5⟩
end Sy
end Go.Fv.Tr
namespace Go.Fv.Tr
open Go Go.Fv Go.Proofs
set_option maxRecDepth 20000
noncomputable def ferry_sys_Do (G:GV) (call:CV) (x0:V) (x1:V) (x2:V) (x3:V) (x4:V):M R :=
 (newV x0).bind fun aA =>
 (newV x1).bind fun aB =>
 (newV (.agg [(V.int .i64 0),(V.int .i64 0),(V.int .i64 0),V.nils,V.nils,V.nils,V.nils,V.nils,V.nils,V.nils,V.nils,(V.int .i64 0)])).bind fun aC =>
 (M.ret V.nili).bind fun aD =>
 (loadN 7 aA).bind fun aE =>
 (loadN 10 aB).bind fun aF =>
 (callV (cfg G) call 17 [aE,aF]).bind fun aG =>
 (M.ret aG).bind fun aH =>
 (M.ret aH).bind fun aI =>
 (M.lift ((eqV .iface true aI V.nili).bind fun b => some (.bool !b))).bind fun aJ =>
 (condV aJ
 ((M.lift (buildV [(V.int .i64 0),(V.int .i64 0),(V.int .i64 0),V.nils,V.nils,V.nils,V.nils,V.nils,V.nils,V.nils,V.nils,(V.int .i64 0)] [])).bind fun aK =>
 (M.ret aH).bind fun aL =>
 (storeN 12 aC aK).bind fun _ =>
 (M.ret aL).bind fun aM =>
 (((loadN 12 aC)).bind fun v => ((M.ret []).bind fun l => M.ret (aM :: l)).bind fun l => M.ret (v :: l)).bind fun l => M.ret (Ex.ret,tupV l))
 ((M.ret x2).bind fun aN =>
 (M.lift (arithV .lss aN (V.int .i64 0))).bind fun aO =>
 (M.ret aO).bind fun aP =>
 (guardV aP false (M.ret x2)).bind fun aQ =>
 (guardV aP false (M.lift (padd 3 aB))).bind fun aR =>
 (guardV aP false (load1 aR)).bind fun aS =>
 (guardV aP false (M.lift (lenV aS))).bind fun aT =>
 (guardV aP false (M.lift (arithV .geq aQ aT))).bind fun aU =>
 (M.lift (pickV aP (V.bool true) aU)).bind fun aV =>
 (M.ret aV).bind fun aW =>
 (guardV aW false (M.lift (padd 3 aB))).bind fun aX =>
 (guardV aW false (load1 aX)).bind fun aY =>
 (guardV aW false (M.ret x2)).bind fun aZ =>
 (guardV aW false (M.lift (idxV 21 aY aZ))).bind fun bA =>
 (guardV aW false (M.lift (padd 17 bA))).bind fun bB =>
 (guardV aW false (load1 bB)).bind fun bC =>
 (guardV aW false (M.lift ((eqV (.sc .int) true bC (V.int .i64 1)).bind fun b => some (.bool !b)))).bind fun bD =>
 (M.lift (pickV aW (V.bool true) bD)).bind fun bE =>
 (M.ret bE).bind fun bF =>
 (guardV bF false (M.ret x4)).bind fun bG =>
 (guardV bF false (M.lift (arithV .lss bG (V.int .i64 0)))).bind fun bH =>
 (M.lift (pickV bF (V.bool true) bH)).bind fun bI =>
 (M.ret bI).bind fun bJ =>
 (guardV bJ false (M.ret x4)).bind fun bK =>
 (guardV bJ false (M.lift (arithV .gtr bK (V.int .i64 10000)))).bind fun bL =>
 (M.lift (pickV bJ (V.bool true) bL)).bind fun bM =>
 (condV bM
 (((M.lift (buildV [(V.int .i64 0),(V.int .i64 0),(V.int .i64 0),V.nils,V.nils,V.nils,V.nils,V.nils,V.nils,V.nils,V.nils,(V.int .i64 0)] [])).bind fun bN =>
 (load1 (glob (cfg G) 0)).bind fun bO =>
 guardM (apartV (glob (cfg G) 0) aC && true) (
 (storeN 12 aC bN).bind fun _ =>
 (M.ret bO).bind fun bP =>
 (((loadN 12 aC)).bind fun v => ((M.ret []).bind fun l => M.ret (bP :: l)).bind fun l => M.ret (v :: l)).bind fun l => M.ret (Ex.ret,tupV l))))
 ((callV (cfg G) call 26 []).bind fun bQ =>
 (M.ret bQ).bind fun bR =>
 (M.ret x3).bind fun bS =>
 (M.lift (arithV .lss bS (V.int .i64 0))).bind fun bT =>
 (M.ret bT).bind fun bU =>
 (guardV bU false (M.ret x3)).bind fun bV =>
 (guardV bU false (M.ret bR)).bind fun bW =>
 (guardV bU false (M.lift (lenV bW))).bind fun bX =>
 (guardV bU false (M.lift (arithV .geq bV bX))).bind fun bY =>
 (M.lift (pickV bU (V.bool true) bY)).bind fun bZ =>
 (condV bZ
 ((loadN 10 aB).bind fun cA =>
 (callV (cfg G) call 27 [cA]).bind fun cB =>
 (M.lift (buildV [(V.int .i64 0),(V.int .i64 0),(V.int .i64 0),V.nils,V.nils,V.nils,V.nils,V.nils,V.nils,V.nils,V.nils,(V.int .i64 0)] [(0,10,cB),(11,1,(V.int .i64 8))])).bind fun cC =>
 (storeN 12 aC cC).bind fun _ =>
 (M.ret V.nili).bind fun cD =>
 (((loadN 12 aC)).bind fun v => ((M.ret []).bind fun l => M.ret (cD :: l)).bind fun l => M.ret (v :: l)).bind fun l => M.ret (Ex.ret,tupV l))
 ((getN.bind fun cE =>
 (loadN 7 aA).bind fun cF =>
 getN.bind fun cG =>
 (loadN 10 aB).bind fun cH =>
 getN.bind fun cI =>
 (qrun (visB cE [(cG,cI,true),(cE,cG,false)]) (callV (cfg G) call 27 [cH])).bind fun cJ =>
 (M.ret x2).bind fun cK =>
 (M.ret x4).bind fun cL =>
 (M.lift (buildV [(V.int .i64 0),(V.bool false),V.nils,V.nils,V.nils,(V.int .i64 0),V.nils,(V.int .i64 0),(V.int .i64 0),(V.int .i64 0),V.nils,V.nils,V.nils,V.nils,V.nils,V.nils,V.nils,(V.int .i64 0),(V.int .i64 0),V.nils,(V.int .i64 0)] [(0,7,cF),(7,10,cJ),(17,1,cK),(18,1,cL)])).bind fun cM =>
 (newV cM).bind fun cN =>
 (M.ret cN).bind fun cO =>
 (M.ret bR).bind fun cP =>
 (M.ret x3).bind fun cQ =>
 (M.lift (idxV 3 cP cQ)).bind fun cR =>
 (M.lift (padd 2 cR)).bind fun cS =>
 (load1 cS).bind fun cT =>
 (M.ret cO).bind fun cU =>
 (callFn (cfg G) call cT [cU]).bind fun cV =>
 (M.ret cO).bind fun cW =>
 (M.lift (nilCheckV cW)).bind fun cX =>
 (M.lift (padd 20 cX)).bind fun cY =>
 (load1 cY).bind fun cZ =>
 (M.lift ((eqV (.sc .int) true cZ (V.int .i64 0)).bind fun b => some (.bool !b))).bind fun dA =>
 (condV dA
 ((getN.bind fun dB =>
 (loadN 10 aB).bind fun dC =>
 getN.bind fun dD =>
 (qrun (visB dB [(dB,dD,true)]) (callV (cfg G) call 27 [dC])).bind fun dE =>
 (M.ret cO).bind fun dF =>
 (M.lift (nilCheckV dF)).bind fun dG =>
 (M.lift (padd 20 dG)).bind fun dH =>
 (load1 dH).bind fun dI =>
 (M.lift (buildV [(V.int .i64 0),(V.int .i64 0),(V.int .i64 0),V.nils,V.nils,V.nils,V.nils,V.nils,V.nils,V.nils,V.nils,(V.int .i64 0)] [(0,10,dE),(11,1,dI)])).bind fun dJ =>
 (storeN 12 aC dJ).bind fun _ =>
 (M.ret V.nili).bind fun dK =>
 (((loadN 12 aC)).bind fun v => ((M.ret []).bind fun l => M.ret (dK :: l)).bind fun l => M.ret (v :: l)).bind fun l => M.ret (Ex.ret,tupV l)))
 (((M.ret cO).bind fun dL =>
 (M.lift (nilCheckV dL)).bind fun dM =>
 (M.lift (padd 7 dM)).bind fun dN =>
 (loadN 10 dN).bind fun dO =>
 (M.ret cO).bind fun dP =>
 (M.lift (nilCheckV dP)).bind fun dQ =>
 (M.lift (padd 19 dQ)).bind fun dR =>
 (load1 dR).bind fun dS =>
 (M.lift (buildV [(V.int .i64 0),(V.int .i64 0),(V.int .i64 0),V.nils,V.nils,V.nils,V.nils,V.nils,V.nils,V.nils,V.nils,(V.int .i64 0)] [(0,10,dO),(10,1,dS)])).bind fun dT =>
 (storeN 12 aC dT).bind fun _ =>
 (M.ret V.nili).bind fun dU =>
 (((loadN 12 aC)).bind fun v => ((M.ret []).bind fun l => M.ret (dU :: l)).bind fun l => M.ret (v :: l)).bind fun l => M.ret (Ex.ret,tupV l)))))))))))
theorem ferry_sys_Do_eq (G:GV) (n:Nat) (x0:V) (x1:V) (x2:V) (x3:V) (x4:V):sem (cfg G) (n + 1) 10 [x0,x1,x2,x3,x4] = outV (ferry_sys_Do G (sem (cfg G) n) x0 x1 x2 x3 x4) :=
 (fnV_at (C:=cfg G) (n:=n) (f:=10) (fn:=Tryz.f10) (c:=Tryz.f10.body.getD .skip) (by kernel_rfl) (by kernel_rfl) (by kernel_rfl) [x0,x1,x2,x3,x4]).trans (by kernel_rfl)
noncomputable def ferry_sys_caller_signal (G:GV) (call:CV) (x0:V):M R :=
 (M.ret x0).bind fun aA =>
 (M.ret x0).bind fun aB =>
 (M.lift (nilCheckV aB)).bind fun aC =>
 (M.lift (padd 0 aC)).bind fun aD =>
 (M.lift (padd 6 aD)).bind fun aE =>
 (load1 aE).bind fun aF =>
 (M.lift (lenV aF)).bind fun aG =>
 (callV (cfg G) call 87 [aA,aG]).bind fun aH =>
 (M.ret aH).bind fun aI =>
 (M.lift (extractV aI 0)).bind fun aJ =>
 (M.lift (extractV aI 1)).bind fun aK =>
 (M.ret aJ).bind fun aL =>
 (M.ret aK).bind fun aM =>
 (M.ret aM).bind fun aN =>
 (M.lift (unV .not aN)).bind fun aO =>
 (condV aO
 (M.ret (Ex.ret,[V.tuple []]))
 ((M.ret x0).bind fun aP =>
 (callV (cfg G) call 85 [aP]).bind fun aQ =>
 (M.ret aL).bind fun aR =>
 (callV (cfg G) call 95 [aQ,(V.int .i64 3),aR]).bind fun aS =>
 (M.ret aS).bind fun aT =>
 (M.lift (extractV aT 0)).bind fun aU =>
 (M.lift (extractV aT 1)).bind fun aV =>
 (M.ret aU).bind fun aW =>
 (M.ret aV).bind fun aX =>
 (M.ret aX).bind fun aY =>
 (M.lift ((eqV .iface true aY V.nili).bind fun b => some (.bool b))).bind fun aZ =>
 (M.ret aZ).bind fun bA =>
 (condV bA
 ((M.ret x0).bind fun bB =>
 (M.ret x0).bind fun bC =>
 (callV (cfg G) call 85 [bC]).bind fun bD =>
 (M.ret aW).bind fun bE =>
 (callV (cfg G) call 96 [bD,bE,(V.int .u32 0)]).bind fun bF =>
 (M.lift (extractV bF 0)).bind fun bG =>
 (M.lift (extractV bF 1)).bind fun bH =>
 (callV (cfg G) call 83 [bB,bG,bH]).bind fun bI =>
 (M.ret x0).bind fun bJ =>
 (callV (cfg G) call 82 [bJ,(V.int .u32 0)]).bind fun bK =>
 M.ret (Ex.ret,[V.tuple []]))
 ((M.ret x0).bind fun bL =>
 (M.lift (nilCheckV bL)).bind fun bM =>
 (M.lift (padd 7 bM)).bind fun bN =>
 (M.lift (padd 7 bN)).bind fun bO =>
 (load1 bO).bind fun bP =>
 (M.ret aL).bind fun bQ =>
 (M.lift (idxV 1 bP bQ)).bind fun bR =>
 (load1 bR).bind fun bS =>
 (M.lift ((eqV (.sc .int) true bS (V.int .i64 255)).bind fun b => some (.bool b))).bind fun bT =>
 (M.ret bT).bind fun bU =>
 (condV bU
 ((M.ret x0).bind fun bV =>
 (callV (cfg G) call 82 [bV,(V.int .u32 4294967293)]).bind fun bW =>
 M.ret (Ex.ret,[V.tuple []]))
 ((M.ret x0).bind fun bX =>
 (M.lift (nilCheckV bX)).bind fun bY =>
 (M.lift (padd 7 bY)).bind fun bZ =>
 (M.lift (padd 7 bZ)).bind fun cA =>
 (load1 cA).bind fun cB =>
 (M.ret aL).bind fun cC =>
 (M.lift (idxV 1 cB cC)).bind fun cD =>
 (load1 cD).bind fun cE =>
 (M.lift (arithV .add cE (V.int .i64 1))).bind fun cF =>
 (M.lift (idxV 1 cB cC)).bind fun cG =>
 (storeN 1 cG cF).bind fun _ =>
 (M.ret x0).bind fun cH =>
 (callV (cfg G) call 82 [cH,(V.int .u32 0)]).bind fun cI =>
 M.ret (Ex.ret,[V.tuple []])))))))
theorem ferry_sys_caller_signal_eq (G:GV) (n:Nat) (x0:V):sem (cfg G) (n + 1) 49 [x0] = outV (ferry_sys_caller_signal G (sem (cfg G) n) x0) :=
 (fnV_at (C:=cfg G) (n:=n) (f:=49) (fn:=Tryz.f49) (c:=Tryz.f49.body.getD .skip) (by kernel_rfl) (by kernel_rfl) (by kernel_rfl) [x0]).trans (by kernel_rfl)
noncomputable def ferry_sys_caller_take (G:GV) (call:CV) (x0:V):M R :=
 (M.ret x0).bind fun aA =>
 (M.ret x0).bind fun aB =>
 (M.lift (nilCheckV aB)).bind fun aC =>
 (M.lift (padd 0 aC)).bind fun aD =>
 (M.lift (padd 6 aD)).bind fun aE =>
 (load1 aE).bind fun aF =>
 (M.lift (lenV aF)).bind fun aG =>
 (callV (cfg G) call 87 [aA,aG]).bind fun aH =>
 (M.ret aH).bind fun aI =>
 (M.lift (extractV aI 0)).bind fun aJ =>
 (M.lift (extractV aI 1)).bind fun aK =>
 (M.ret aJ).bind fun aL =>
 (M.ret aK).bind fun aM =>
 (M.ret aM).bind fun aN =>
 (M.lift (unV .not aN)).bind fun aO =>
 (M.ret aO).bind fun aP =>
 (guardV aP false (M.ret x0)).bind fun aQ =>
 (guardV aP false (callV (cfg G) call 93 [aQ])).bind fun aR =>
 (guardV aP false (M.lift (unV .not aR))).bind fun aS =>
 (M.lift (pickV aP (V.bool true) aS)).bind fun aT =>
 (condV aT
 (M.ret (Ex.ret,[V.tuple []]))
 ((M.ret x0).bind fun aU =>
 (M.lift (nilCheckV aU)).bind fun aV =>
 (M.lift (padd 7 aV)).bind fun aW =>
 (M.lift (padd 7 aW)).bind fun aX =>
 (load1 aX).bind fun aY =>
 (M.ret aL).bind fun aZ =>
 (M.lift (idxV 1 aY aZ)).bind fun bA =>
 (load1 bA).bind fun bB =>
 (M.lift (arithV .gtr bB (V.int .i64 0))).bind fun bC =>
 (condV bC
 ((M.ret x0).bind fun bD =>
 (M.lift (nilCheckV bD)).bind fun bE =>
 (M.lift (padd 7 bE)).bind fun bF =>
 (M.lift (padd 7 bF)).bind fun bG =>
 (load1 bG).bind fun bH =>
 (M.ret aL).bind fun bI =>
 (M.lift (idxV 1 bH bI)).bind fun bJ =>
 (load1 bJ).bind fun bK =>
 (M.lift (arithV .sub bK (V.int .i64 1))).bind fun bL =>
 (M.lift (idxV 1 bH bI)).bind fun bM =>
 (storeN 1 bM bL).bind fun _ =>
 (M.ret x0).bind fun bN =>
 (callV (cfg G) call 82 [bN,(V.int .u32 0)]).bind fun bO =>
 M.ret (Ex.ret,[V.tuple []]))
 ((M.ret x0).bind fun bP =>
 (M.ret aL).bind fun bQ =>
 (callV (cfg G) call 94 [bP,(V.int .i64 3),bQ]).bind fun bR =>
 M.ret (Ex.ret,[V.tuple []])))))
theorem ferry_sys_caller_take_eq (G:GV) (n:Nat) (x0:V):sem (cfg G) (n + 1) 50 [x0] = outV (ferry_sys_caller_take G (sem (cfg G) n) x0) :=
 (fnV_at (C:=cfg G) (n:=n) (f:=50) (fn:=Tryz.f50) (c:=Tryz.f50.body.getD .skip) (by kernel_rfl) (by kernel_rfl) (by kernel_rfl) [x0]).trans (by kernel_rfl)
noncomputable def ferry_sys_caller_answer (G:GV) (call:CV) (x0:V) (x1:V):M R :=
 ((M.ret x0).bind fun aA =>
 (M.lift (nilCheckV aA)).bind fun aB =>
 (M.lift (padd 7 aB)).bind fun aC =>
 (M.lift (padd 3 aC)).bind fun aD =>
 (load1 aD).bind fun aE =>
 (M.ret x0).bind fun aF =>
 (M.lift (nilCheckV aF)).bind fun aG =>
 (M.lift (padd 17 aG)).bind fun aH =>
 (load1 aH).bind fun aI =>
 (M.ret x1).bind fun aJ =>
 (M.lift (idxV 21 aE aI)).bind fun aK =>
 (M.lift (padd 0 aK)).bind fun aL =>
 (M.lift (aidxV 16 1 aL (V.int .i64 1))).bind fun aM =>
 (storeN 1 aM aJ).bind fun _ =>
 M.ret (Ex.ret,[V.tuple []]))
theorem ferry_sys_caller_answer_eq (G:GV) (n:Nat) (x0:V) (x1:V):sem (cfg G) (n + 1) 82 [x0,x1] = outV (ferry_sys_caller_answer G (sem (cfg G) n) x0 x1) :=
 (fnV_at (C:=cfg G) (n:=n) (f:=82) (fn:=Tryz.f82) (c:=Tryz.f82.body.getD .skip) (by kernel_rfl) (by kernel_rfl) (by kernel_rfl) [x0,x1]).trans (by kernel_rfl)
noncomputable def ferry_sys_caller_change (G:GV) (call:CV) (x0:V) (x1:V) (x2:V):M R :=
 (newV x1).bind fun aA =>
 (M.ret x2).bind fun aB =>
 (M.lift ((eqV .iface true aB V.nili).bind fun b => some (.bool b))).bind fun aC =>
 (condV aC
 ((getN.bind fun aD =>
 (M.ret x0).bind fun aE =>
 getN.bind fun aF =>
 (M.ret x0).bind fun aG =>
 getN.bind fun aH =>
 (M.lift (nilCheckV aG)).bind fun aI =>
 getN.bind fun aJ =>
 (M.lift (padd 7 aI)).bind fun aK =>
 getN.bind fun aL =>
 (loadN 10 aK).bind fun aM =>
 getN.bind fun aN =>
 (loadN 3 aA).bind fun aO =>
 getN.bind fun aP =>
 (qrun (visB aD [(aN,aP,true),(aL,aN,true),(aJ,aL,true),(aH,aJ,true),(aF,aH,true),(aD,aF,false)]) (callV (cfg G) call 132 [aM,aO])).bind fun aQ =>
 (M.lift (nilCheckV aE)).bind fun aR =>
 (M.lift (padd 7 aR)).bind fun aS =>
 (storeN 10 aS aQ).bind fun _ =>
 M.ret (Ex.ret,[V.tuple []])))
 (M.ret (Ex.ret,[V.tuple []])))
theorem ferry_sys_caller_change_eq (G:GV) (n:Nat) (x0:V) (x1:V) (x2:V):sem (cfg G) (n + 1) 83 [x0,x1,x2] = outV (ferry_sys_caller_change G (sem (cfg G) n) x0 x1 x2) :=
 (fnV_at (C:=cfg G) (n:=n) (f:=83) (fn:=Tryz.f83) (c:=Tryz.f83.body.getD .skip) (by kernel_rfl) (by kernel_rfl) (by kernel_rfl) [x0,x1,x2]).trans (by kernel_rfl)
noncomputable def ferry_sys_caller_table (G:GV) (call:CV) (x0:V):M R :=
 (newV (.agg [V.nils,V.nils,V.nils])).bind fun aA =>
 (M.ret x0).bind fun aB =>
 (M.lift (nilCheckV aB)).bind fun aC =>
 (M.lift (padd 7 aC)).bind fun aD =>
 (loadN 10 aD).bind fun aE =>
 (callV (cfg G) call 135 [aE]).bind fun aF =>
 (storeN 3 aA aF).bind fun _ =>
 (((loadN 3 aA)).bind fun v => (M.ret []).bind fun l => M.ret (v :: l)).bind fun l => M.ret (Ex.ret,tupV l)
theorem ferry_sys_caller_table_eq (G:GV) (n:Nat) (x0:V):sem (cfg G) (n + 1) 85 [x0] = outV (ferry_sys_caller_table G (sem (cfg G) n) x0) :=
 (fnV_at (C:=cfg G) (n:=n) (f:=85) (fn:=Tryz.f85) (c:=Tryz.f85.body.getD .skip) (by kernel_rfl) (by kernel_rfl) (by kernel_rfl) [x0]).trans (by kernel_rfl)
noncomputable def ferry_sys_caller_index (G:GV) (call:CV) (x0:V) (x1:V):M R :=
 (M.ret (V.int .i64 0)).bind fun aA =>
 (M.ret (V.bool false)).bind fun aB =>
 (M.ret x0).bind fun aC =>
 (callV (cfg G) call 89 [aC,(V.int .i64 1)]).bind fun aD =>
 (M.ret aD).bind fun aE =>
 (M.ret aE).bind fun aF =>
 (M.lift (convI .u64 aF)).bind fun aG =>
 (M.ret x1).bind fun aH =>
 (M.lift (convI .u64 aH)).bind fun aI =>
 (M.lift (arithV .lss aG aI)).bind fun aJ =>
 (condV aJ
 ((M.ret aE).bind fun aK =>
 (M.lift (convI .i64 aK)).bind fun aL =>
 (M.ret aL).bind fun aM =>
 (M.ret (V.bool true)).bind fun aN =>
 M.ret (Ex.ret,[V.tuple [aM,aN]]))
 ((M.ret x0).bind fun aO =>
 (callV (cfg G) call 82 [aO,(V.int .u32 4294967295)]).bind fun aP =>
 (M.ret (V.int .i64 0)).bind fun aQ =>
 (M.ret (V.bool false)).bind fun aR =>
 M.ret (Ex.ret,[V.tuple [aQ,aR]])))
theorem ferry_sys_caller_index_eq (G:GV) (n:Nat) (x0:V) (x1:V):sem (cfg G) (n + 1) 87 [x0,x1] = outV (ferry_sys_caller_index G (sem (cfg G) n) x0 x1) :=
 (fnV_at (C:=cfg G) (n:=n) (f:=87) (fn:=Tryz.f87) (c:=Tryz.f87.body.getD .skip) (by kernel_rfl) (by kernel_rfl) (by kernel_rfl) [x0,x1]).trans (by kernel_rfl)
noncomputable def ferry_sys_caller_reg (G:GV) (call:CV) (x0:V) (x1:V):M R :=
 (M.ret (V.int .u32 0)).bind fun aA =>
 ((M.ret x0).bind fun aB =>
 (M.lift (nilCheckV aB)).bind fun aC =>
 (M.lift (padd 7 aC)).bind fun aD =>
 (M.lift (padd 3 aD)).bind fun aE =>
 (load1 aE).bind fun aF =>
 (M.ret x0).bind fun aG =>
 (M.lift (nilCheckV aG)).bind fun aH =>
 (M.lift (padd 17 aH)).bind fun aI =>
 (load1 aI).bind fun aJ =>
 (M.ret x1).bind fun aK =>
 (M.lift (idxV 21 aF aJ)).bind fun aL =>
 (M.lift (padd 0 aL)).bind fun aM =>
 (M.lift (aidxV 16 1 aM aK)).bind fun aN =>
 (load1 aN).bind fun aO =>
 (M.ret aO).bind fun aP =>
 M.ret (Ex.ret,[aP]))
theorem ferry_sys_caller_reg_eq (G:GV) (n:Nat) (x0:V) (x1:V):sem (cfg G) (n + 1) 89 [x0,x1] = outV (ferry_sys_caller_reg G (sem (cfg G) n) x0 x1) :=
 (fnV_at (C:=cfg G) (n:=n) (f:=89) (fn:=Tryz.f89) (c:=Tryz.f89.body.getD .skip) (by kernel_rfl) (by kernel_rfl) (by kernel_rfl) [x0,x1]).trans (by kernel_rfl)
noncomputable def ferry_sys_caller_timeout (G:GV) (call:CV) (x0:V):M R :=
 (M.ret (V.bool false)).bind fun aA =>
 (M.ret x0).bind fun aB =>
 (callV (cfg G) call 89 [aB,(V.int .i64 2)]).bind fun aC =>
 (M.ret aC).bind fun aD =>
 (M.ret aD).bind fun aE =>
 (M.lift (arithV .gtr aE (V.int .u32 1000000))).bind fun aF =>
 (M.ret aF).bind fun aG =>
 (guardV aG true (M.ret aD)).bind fun aH =>
 (guardV aG true (M.lift ((eqV (.sc .int) true aH (V.int .u32 4294967295)).bind fun b => some (.bool !b)))).bind fun aI =>
 (M.lift (pickV aG aI (V.bool false))).bind fun aJ =>
 (condV aJ
 ((M.ret x0).bind fun aK =>
 (callV (cfg G) call 82 [aK,(V.int .u32 4294967295)]).bind fun aL =>
 (M.ret (V.bool false)).bind fun aM =>
 M.ret (Ex.ret,[aM]))
 ((M.ret (V.bool true)).bind fun aN =>
 M.ret (Ex.ret,[aN])))
theorem ferry_sys_caller_timeout_eq (G:GV) (n:Nat) (x0:V):sem (cfg G) (n + 1) 93 [x0] = outV (ferry_sys_caller_timeout G (sem (cfg G) n) x0) :=
 (fnV_at (C:=cfg G) (n:=n) (f:=93) (fn:=Tryz.f93) (c:=Tryz.f93.body.getD .skip) (by kernel_rfl) (by kernel_rfl) (by kernel_rfl) [x0]).trans (by kernel_rfl)
noncomputable def ferry_sys_caller_wait (G:GV) (call:CV) (x0:V) (x1:V) (x2:V):M R :=
 (M.ret x0).bind fun aA =>
 (callV (cfg G) call 89 [aA,(V.int .i64 2)]).bind fun aB =>
 (M.ret aB).bind fun aC =>
 (M.ret aC).bind fun aD =>
 (M.lift ((eqV (.sc .int) true aD (V.int .u32 0)).bind fun b => some (.bool b))).bind fun aE =>
 (M.ret aE).bind fun aF =>
 (condV aF
 ((M.ret x0).bind fun aG =>
 (callV (cfg G) call 82 [aG,(V.int .u32 4294967294)]).bind fun aH =>
 M.ret (Ex.ret,[V.tuple []]))
 ((M.lift ((eqV (.sc .int) true aD (V.int .u32 4294967295)).bind fun b => some (.bool b))).bind fun aI =>
 (M.ret aI).bind fun aJ =>
 (condV aJ
 ((getN.bind fun aK =>
 (M.ret x0).bind fun aL =>
 getN.bind fun aM =>
 (M.ret x0).bind fun aN =>
 getN.bind fun aO =>
 (qrun (visB aK [(aM,aO,true),(aK,aM,false)]) (callV (cfg G) call 85 [aN])).bind fun aP =>
 getN.bind fun aQ =>
 (M.ret x0).bind fun aR =>
 getN.bind fun aS =>
 (M.lift (nilCheckV aR)).bind fun aT =>
 getN.bind fun aU =>
 (M.lift (padd 17 aT)).bind fun aV =>
 getN.bind fun aW =>
 (load1 aV).bind fun aX =>
 getN.bind fun aY =>
 (M.ret x1).bind fun aZ =>
 getN.bind fun bA =>
 (M.ret x2).bind fun bB =>
 getN.bind fun bC =>
 (qrun (visB aK [(bA,bC,true),(aY,bA,true),(aW,aY,true),(aU,aW,true),(aS,aU,true),(aQ,aS,true),(aO,aQ,true),(aM,aO,true),(aK,aM,false)]) (callV (cfg G) call 90 [aP,aX,aZ,bB,(V.int .i64 (-1))])).bind fun bD =>
 getN.bind fun bE =>
 (M.lift (extractV bD 0)).bind fun bF =>
 getN.bind fun bG =>
 (M.lift (extractV bD 1)).bind fun bH =>
 getN.bind fun bI =>
 (trun (visB aK [(bG,bI,true),(bE,bG,true),(bC,bE,true),(bA,bC,true),(aY,bA,true),(aW,aY,true),(aU,aW,true),(aS,aU,true),(aQ,aS,true),(aO,aQ,true),(aM,aO,true),(aK,aM,true)]) (callV (cfg G) call 83 [aL,bF,bH])).bind fun bJ =>
 M.ret (Ex.ret,[V.tuple []])))
 ((getN.bind fun bK =>
 (M.ret x0).bind fun bL =>
 getN.bind fun bM =>
 (M.ret x0).bind fun bN =>
 getN.bind fun bO =>
 (qrun (visB bK [(bM,bO,true),(bK,bM,false)]) (callV (cfg G) call 85 [bN])).bind fun bP =>
 getN.bind fun bQ =>
 (M.ret x0).bind fun bR =>
 getN.bind fun bS =>
 (M.lift (nilCheckV bR)).bind fun bT =>
 getN.bind fun bU =>
 (M.lift (padd 17 bT)).bind fun bV =>
 getN.bind fun bW =>
 (load1 bV).bind fun bX =>
 getN.bind fun bY =>
 (M.ret x1).bind fun bZ =>
 getN.bind fun cA =>
 (M.ret x2).bind fun cB =>
 getN.bind fun cC =>
 (M.ret x0).bind fun cD =>
 getN.bind fun cE =>
 (M.lift (nilCheckV cD)).bind fun cF =>
 getN.bind fun cG =>
 (M.lift (padd 18 cF)).bind fun cH =>
 getN.bind fun cI =>
 (load1 cH).bind fun cJ =>
 getN.bind fun cK =>
 (M.ret aC).bind fun cL =>
 getN.bind fun cM =>
 (M.lift (convI .i64 cL)).bind fun cN =>
 getN.bind fun cO =>
 (M.lift (arithV .add cJ cN)).bind fun cP =>
 getN.bind fun cQ =>
 (qrun (visB bK [(cO,cQ,true),(cM,cO,true),(cK,cM,true),(cI,cK,true),(cG,cI,true),(cE,cG,true),(cC,cE,true),(cA,cC,true),(bY,cA,true),(bW,bY,true),(bU,bW,true),(bS,bU,true),(bQ,bS,true),(bO,bQ,true),(bM,bO,true),(bK,bM,false)]) (callV (cfg G) call 90 [bP,bX,bZ,cB,cP])).bind fun cR =>
 getN.bind fun cS =>
 (M.lift (extractV cR 0)).bind fun cT =>
 getN.bind fun cU =>
 (M.lift (extractV cR 1)).bind fun cV =>
 getN.bind fun cW =>
 (trun (visB bK [(cU,cW,true),(cS,cU,true),(cQ,cS,true),(cO,cQ,true),(cM,cO,true),(cK,cM,true),(cI,cK,true),(cG,cI,true),(cE,cG,true),(cC,cE,true),(cA,cC,true),(bY,cA,true),(bW,bY,true),(bU,bW,true),(bS,bU,true),(bQ,bS,true),(bO,bQ,true),(bM,bO,true),(bK,bM,true)]) (callV (cfg G) call 83 [bL,cT,cV])).bind fun cX =>
 M.ret (Ex.ret,[V.tuple []]))))))
theorem ferry_sys_caller_wait_eq (G:GV) (n:Nat) (x0:V) (x1:V) (x2:V):sem (cfg G) (n + 1) 94 [x0,x1,x2] = outV (ferry_sys_caller_wait G (sem (cfg G) n) x0 x1 x2) :=
 (fnV_at (C:=cfg G) (n:=n) (f:=94) (fn:=Tryz.f94) (c:=Tryz.f94.body.getD .skip) (by kernel_rfl) (by kernel_rfl) (by kernel_rfl) [x0,x1,x2]).trans (by kernel_rfl)
end Go.Fv.Tr
