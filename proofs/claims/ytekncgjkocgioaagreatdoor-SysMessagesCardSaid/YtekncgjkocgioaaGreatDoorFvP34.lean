/-
  valid.Copy: the state as new memory. By an AI agent; no person has read it.
-/
import Derived.Test.YtekncgjkocgioaaGreatDoorFvP33
set_option linter.unusedVariables false
set_option linter.unusedSimpArgs false
set_option linter.unusedSectionVars false
/-! valid.Copy: the state as new memory. -/
namespace Go.Fv
open Go
theorem New_q {v:Nat → Bool} {m:M V} {sz:Nat} {rows:List (List V)} {H:Heap} {Q:V → Heap → Prop} (hf:H.floor ≤ H.next)
  (h:∀ K:Heap,K.floor ≤ K.next → Run m K fun y K' => Own K' y sz rows ∧ Frame K K' (fun _ => False) ∧ ∀ l,loc y = some l → K.next ≤ l)
  (q:∀ y H',Own H' y sz rows → Frame H H' (fun _ => False) → (∀ l,loc y = some l → H.next ≤ l ∧ l < H'.next) → Q y H'):Run (qrun v m) H Q:=by
 refine Run.qrunI ((h ⟨fun l => if v l then H.blk l else none,H.next,H.next⟩ (Nat.le_refl _)).mono fun y K' ⟨o,f,l⟩ => ?_)
 have o':=Own.merge (H:=H) o f rfl l hf
 exact q y _ o' ⟨f.next,rfl,fun l hl _ => if_pos hl⟩ fun n hn => ⟨l n hn,o'.loc_lt hn⟩
end Go.Fv
namespace Go.Fv.Tr
open Go Go.Fv Go.Fv.Pl Go.Proofs
variable {G:GV}
namespace Sy
variable {l m:List V} {s:St} {p:Pn} {x y z a b c d x' y' z' u v w g:V} {pr:List (List V)} {k:List V} {H H' K:Heap}
structure Cw (H:Heap) (row:List V):Prop where
 fl:H.floor = 0
 nx:2 ≤ H.next
 b0:H.blk 0 = some ⟨10,[row]⟩
 b1:∃ z,H.blk 1 = some ⟨10,[z]⟩ ∧ z.length = 10
theorem Cw.keep {row:List V} (h:Cw H row) {P:Nat → Prop} (f:Frame H H' P) (hp:∀ m,P m → 2 ≤ m):Cw H' row:=by
 have:=h.nx
 obtain ⟨z,h1,h2⟩:=h.b1
 exact ⟨f.floor.trans h.fl,Nat.le_trans h.nx f.next,(f.old 0 (by omega) fun g => by have:=hp _ g; omega).trans h.b0,z,(f.old 1 (by omega) fun g => by have:=hp _ g; omega).trans h1,h2⟩
theorem Cw.put {row:List V} (h:Cw H row) (row':List V):Cw (H.set 0 ⟨10,[row']⟩) row':=by
 obtain ⟨z,h1,h2⟩:=h.b1
 exact ⟨h.fl,h.nx,by rw [Heap.set_blk,if_pos rfl],z,by rw [Heap.set_blk,if_neg (by decide)]; exact h1,h2⟩
structure Bd (H:Heap) (x:V) (sz:Nat) (rows:List (List V)) (lo hi:Nat):Prop where
 own:Own H x sz rows
 b:∀ l,loc x = some l → lo ≤ l ∧ l < hi
theorem Bd.keep {sz lo hi:Nat} {rows:List (List V)} (h:Bd H x sz rows lo hi) {P:Nat → Prop} (f:Frame H H' P) (hp:∀ m,P m → m < lo ∨ hi ≤ m):Bd H' x sz rows lo hi :=
 ⟨h.own.frame f fun l hl g => by have:=hp l g; have:=h.b l hl; omega,h.b⟩
theorem Bd.fr {sz lo hi:Nat} {rows:List (List V)} (h:Bd H x sz rows lo hi) (f:Frame H H' (fun _ => False)):Bd H' x sz rows lo hi:=h.keep f fun _ g => g.elim
theorem Bd.st {sz lo hi:Nat} {rows:List (List V)} (h:Bd H x sz rows lo hi) {n:Nat} (hn:n < lo) (bk:Blk):Bd (H.set n bk) x sz rows lo hi :=
 h.keep (P:=fun m => m = n) (Frame.set _ _ rfl) fun m e => .inl (by omega)
theorem nd_of {n0 n1 n2 n3 n4 n5 n6 n7:Nat} (bx:∀ l,loc x = some l → n0 ≤ l ∧ l < n1) (bY:∀ l,loc y = some l → n1 ≤ l ∧ l < n2) (bz:∀ l,loc z = some l → n2 ≤ l ∧ l < n3) (bu:∀ l,loc u = some l → n3 ≤ l ∧ l < n4)
  (bv:∀ l,loc v = some l → n4 ≤ l ∧ l < n5) (bw:∀ l,loc w = some l → n5 ≤ l ∧ l < n6) (bg:∀ l,loc g = some l → n6 ≤ l ∧ l < n7) (bp:∀ l ∈ lr pr,n7 ≤ l) (hp:(lr pr).Nodup)
  (hn:n0 ≤ n1 ∧ n1 ≤ n2 ∧ n2 ≤ n3 ∧ n3 ≤ n4 ∧ n4 ≤ n5 ∧ n5 ≤ n6 ∧ n6 ≤ n7):(lv [x,y,z,u,v,w,g] ++ lr pr).Nodup:=by
 simp only [lv_cons,show lv [] = [] from rfl,List.append_nil,List.append_assoc,List.nodup_append]
 simp only [List.mem_append,Option.mem_toList,Option.mem_def]
 have nt:∀ q:V,(loc q).toList.Nodup:=fun q => by cases loc q <;> simp
 refine ⟨nt _,⟨nt _,⟨nt _,⟨nt _,⟨nt _,⟨nt _,⟨nt _,hp,?_⟩,?_⟩,?_⟩,?_⟩,?_⟩,?_⟩,?_⟩
 ·intro i hi j hj e
  subst e
  have:=bg i hi
  have:=bp i hj
  omega
 ·intro i hi j hj e
  subst e
  have:=bw i hi
  repeat' (rcases hj with hj | hj)
  all_goals first
   | (have:=bg i hj; omega)
   | (have:=bp i hj; omega)
 ·intro i hi j hj e
  subst e
  have:=bv i hi
  repeat' (rcases hj with hj | hj)
  all_goals first
   | (have:=bw i hj; omega)
   | (have:=bg i hj; omega)
   | (have:=bp i hj; omega)
 ·intro i hi j hj e
  subst e
  have:=bu i hi
  repeat' (rcases hj with hj | hj)
  all_goals first
   | (have:=bv i hj; omega)
   | (have:=bw i hj; omega)
   | (have:=bg i hj; omega)
   | (have:=bp i hj; omega)
 ·intro i hi j hj e
  subst e
  have:=bz i hi
  repeat' (rcases hj with hj | hj)
  all_goals first
   | (have:=bu i hj; omega)
   | (have:=bv i hj; omega)
   | (have:=bw i hj; omega)
   | (have:=bg i hj; omega)
   | (have:=bp i hj; omega)
 ·intro i hi j hj e
  subst e
  have:=bY i hi
  repeat' (rcases hj with hj | hj)
  all_goals first
   | (have:=bz i hj; omega)
   | (have:=bu i hj; omega)
   | (have:=bv i hj; omega)
   | (have:=bw i hj; omega)
   | (have:=bg i hj; omega)
   | (have:=bp i hj; omega)
 ·intro i hi j hj e
  subst e
  have:=bx i hi
  repeat' (rcases hj with hj | hj)
  all_goals first
   | (have:=bY i hj; omega)
   | (have:=bz i hj; omega)
   | (have:=bu i hj; omega)
   | (have:=bv i hj; omega)
   | (have:=bw i hj; omega)
   | (have:=bg i hj; omega)
   | (have:=bp i hj; omega)
def NewSt (H:Heap) (s:St) (r:V) (H':Heap):Prop:=∃ l x y z u v w g pr,r = .agg l ∧ MS H' l s x y z u v w g pr ∧ Frame H H' (fun _ => False) ∧ ∀ n ∈ lv [x,y,z,u,v,w,g] ++ lr pr,H.next ≤ n
structure Lp (H:Heap) (ports:List Po) (pr rk:List (List V)) (k lo:Nat):Prop where
 len:rk.length = ports.length
 done:∀ (j:Nat) (hj:j < rk.length),j < k → PoM H rk[j] (ports[j]'(by omega))
 rest:∀ (j:Nat) (hj:j < rk.length) (hp:j < pr.length),k ≤ j → rk[j] = pr[j]
 nd:(lr (rk.take k)).Nodup
 ge:∀ l ∈ lr (rk.take k),lo ≤ l ∧ l < H.next
theorem Lp.start {ports:List Po} (hl:pr.length = ports.length) (lo:Nat):Lp H ports pr pr 0 lo :=
 ⟨hl,fun j hj h => absurd h (Nat.not_lt_zero _),fun j hj hp _ => rfl,by simp [lr],fun l h => by simp [lr] at h⟩
theorem lr_snoc {rk:List (List V)} {k:Nat} (h:k < rk.length):lr (rk.take (k + 1)) = lr (rk.take k) ++ (hd rk[k]).toList:=by
 rw [take_snoc h]
 unfold lr
 rw [List.filterMap_append]
 congr 1
theorem Lp.next {ports:List Po} {rk:List (List V)} {k lo lP:Nat} {mv:V} (h:Lp H ports pr rk k lo) (hk:k < rk.length) (f:Frame H H' (fun l => l = lP)) (hP:lP < lo) (hlo:lo ≤ H.next)
  (o:Own H' mv 1 ((ports[k]'(by rw [← h.len]; exact hk)).msgs.map stR)) (hb:(ports[k]'(by rw [← h.len]; exact hk)).msgs.length ≤ big) (hm:∀ l,loc mv = some l → H.next ≤ l ∧ l < H'.next) :
  Lp H' ports pr (rk.set k [mv,i64 (ports[k]'(by rw [← h.len]; exact hk)).age]) (k + 1) lo:=by
 have e1:(rk.set k [mv,i64 (ports[k]'(by rw [← h.len]; exact hk)).age]).take k = rk.take k:=by rw [List.take_set,List.set_eq_of_length_le (by simp; omega)]
 have e2:lr ((rk.set k [mv,i64 (ports[k]'(by rw [← h.len]; exact hk)).age]).take (k + 1)) = lr (rk.take k) ++ (loc mv).toList:=by
  rw [lr_snoc (by simpa using hk),e1,List.getElem_set_self]; rfl
 refine ⟨by simp [h.len],fun j hj hjk => ?_,fun j hj hp hjk => ?_,?_,?_⟩
 ·by_cases hjk':j = k
  ·subst hjk'
   rw [List.getElem_set_self]
   exact ⟨mv,rfl,o,hb⟩
  ·rw [List.getElem_set_ne (by omega)]
   refine (h.done j (by simpa using hj) (by omega)).frame f fun l hl e => ?_
   have:=h.ge l (List.mem_filterMap.2 ⟨_,List.mem_take_iff_getElem.2 ⟨j,by simp at hj; omega,rfl⟩,hl⟩)
   omega
 ·rw [List.getElem_set_ne (by omega)]
  exact h.rest j (by simpa using hj) hp (by omega)
 ·rw [e2,List.nodup_append]
  refine ⟨h.nd,by cases loc mv <;> simp,fun i hi j hj e => ?_⟩
  rw [Option.mem_toList] at hj
  have:=h.ge i hi
  have:=hm j hj
  omega
 ·intro l hl
  rw [e2,List.mem_append,Option.mem_toList] at hl
  rcases hl with hl | hl
  ·have:=h.ge l hl
   exact ⟨this.1,Nat.lt_of_lt_of_le this.2 f.next⟩
  ·have:=hm l hl
   exact ⟨by omega,this.2⟩
theorem Lp.keep {ports:List Po} {rk:List (List V)} {k lo:Nat} (h:Lp H ports pr rk k lo) (f:Frame H H' (fun _ => False)):Lp H' ports pr rk k lo :=
 ⟨h.len,fun j hj hjk => (h.done j hj hjk).frame f fun _ _ => id,h.rest,h.nd,fun l hl => ⟨(h.ge l hl).1,Nat.lt_of_lt_of_le (h.ge l hl).2 f.next⟩⟩
theorem Lp.all {ports:List Po} {rk:List (List V)} {k lo:Nat} (h:Lp H ports pr rk k lo) (hk:ports.length ≤ k):PsM H rk ports ∧ (lr rk).Nodup ∧ ∀ l ∈ lr rk,lo ≤ l ∧ l < H.next:=by
 have e:rk.take k = rk:=take_all (by rw [h.len]; exact hk)
 refine ⟨⟨h.len,fun j hj => h.done j hj (by have:=h.len; omega)⟩,?_,?_⟩
 ·have:=h.nd; rwa [e] at this
 ·have:=h.ge; rwa [e] at this
set_option maxRecDepth 20000 in
set_option maxHeartbeats 1000000 in
theorem copy_new (n:Nat) (hs:StS l s x y z u v w g pr) (hb:StB s) (hK:K.floor ≤ K.next):Run (callV (cfg G) (sem (cfg G) (n + 3)) 27 [.agg l]) K (NewSt K s):=by
 refine callV_own rfl (mapM_closedV (by simp [hs.closedV]) K) ?_
 have hpl:=hs.plen
 have hprow:∀ (j:Nat) (hj:j < pr.length) (hp:j < s.ports.length),PoS pr[j] s.ports[j]:=fun j hj _ => hs.prow j hj
 have hrb:=room_big
 obtain ⟨rfl,ht,hup,hsm,hpo,hpg,-,-,-,-⟩:=hs
 rw [ferry_valid_Copy_eq]
 simp only [ferry_valid_Copy]
 (repeat' (first | (simp only [wp,extractV,w0,reduceIte,Nat.reduceAdd,Nat.reduceLT,Nat.reduceLeDiff,Nat.reduceEqDiff]) | (with_reducible ((first | apply xC | apply xG | apply xQ) <;> intro hb <;> try simp only [hb]))))
 have c0:Cw ((Heap.empty.add ⟨10,[[i64 s.id,i64 s.fr,i64 s.ep,x,y,z,u,v,w,g]]⟩).add ⟨10,[[.int .i64 0,.int .i64 0,.int .i64 0,.nils,.nils,.nils,.nils,.nils,.nils,.nils]]⟩) [i64 s.id,i64 s.fr,i64 s.ep,x,y,z,u,v,w,g] :=
  ⟨rfl,Nat.le_refl _,rfl,_,rfl,rfl⟩
 generalize ((Heap.empty.add ⟨10,[[i64 s.id,i64 s.fr,i64 s.ep,x,y,z,u,v,w,g]]⟩).add ⟨10,[[.int .i64 0,.int .i64 0,.int .i64 0,.nils,.nils,.nils,.nils,.nils,.nils,.nils]]⟩) = H0 at *
 have zf:∀ {K:Heap} {row:List V},Cw K row → K.floor ≤ K.next:=fun h => by rw [h.fl]; exact Nat.zero_le _
 have no2:∀ m:Nat,False → 2 ≤ m:=fun _ h => h.elim
 refine New_q (zf c0) (fun K' hK' => clone72 (n + 1) ht.p (flat_prs _) (by simpa using hb.t.1) hK') fun x1 H1 o1 f1 b1 => ?_
 have c1:=c0.keep f1 no2
 have B1:Bd H1 x1 21 _ H0.next H1.next:=⟨o1,b1⟩
 (repeat' (first | (simp only [wp,extractV,w0,reduceIte,Nat.reduceAdd,Nat.reduceLT,Nat.reduceLeDiff,Nat.reduceEqDiff,c1.b0]) | (with_reducible ((first | apply xC | apply xG | apply xQ) <;> intro hb <;> try simp only [hb]))))
 refine New_q (zf c1) (fun K' hK' => clone73 (n + 1) ht.q (flat_ints _) (by simpa using hb.t.2.1) hK') fun y1 H2 o2 f2 b2 => ?_
 have c2:=c1.keep f2 no2
 have B2:Bd H2 y1 1 _ H1.next H2.next:=⟨o2,b2⟩
 have B1:=B1.fr f2
 (repeat' (first | (simp only [wp,extractV,w0,reduceIte,Nat.reduceAdd,Nat.reduceLT,Nat.reduceLeDiff,Nat.reduceEqDiff,c2.b0]) | (with_reducible ((first | apply xC | apply xG | apply xQ) <;> intro hb <;> try simp only [hb]))))
 refine New_q (zf c2) (fun K' hK' => clone74 (n + 1) ht.s (flat_tms _) (by simpa using hb.t.2.2) hK') fun z1 H3 o3 f3 b3 => ?_
 have c3:=c2.keep f3 no2
 have B3:Bd H3 z1 2 _ H2.next H3.next:=⟨o3,b3⟩
 have B1:=B1.fr f3
 have B2:=B2.fr f3
 have n0:=c0.nx
 have n1:=f1.next
 have n2:=f2.next
 have n3:=f3.next
 (repeat' (first | (simp only [wp,extractV,w0,reduceIte,Nat.reduceAdd,Nat.reduceLT,Nat.reduceLeDiff,Nat.reduceEqDiff,c3.b0,c3.fl,o1.cells,o2.cells,o3.cells,Heap.set_set]) | (with_reducible ((first | apply xC | apply xG | apply xQ) <;> intro hb <;> try simp only [hb]))))
 have c4:=c3.put [i64 s.id,i64 s.fr,i64 s.ep,x1,y1,z1,u,v,w,g]
 have B1:=B1.st (n:=0) (by omega) ⟨10,[[i64 s.id,i64 s.fr,i64 s.ep,x1,y1,z1,u,v,w,g]]⟩
 have B2:=B2.st (n:=0) (by omega) ⟨10,[[i64 s.id,i64 s.fr,i64 s.ep,x1,y1,z1,u,v,w,g]]⟩
 have B3:=B3.st (n:=0) (by omega) ⟨10,[[i64 s.id,i64 s.fr,i64 s.ep,x1,y1,z1,u,v,w,g]]⟩
 have e4:(H3.set 0 ⟨10,[[i64 s.id,i64 s.fr,i64 s.ep,x1,y1,z1,u,v,w,g]]⟩).next = H3.next:=rfl
 generalize H3.set 0 ⟨10,[[i64 s.id,i64 s.fr,i64 s.ep,x1,y1,z1,u,v,w,g]]⟩ = H4 at *
 refine New_q (zf c4) (fun K' hK' => clone76 (n + 1) hup (flat_bos _) (by simpa using hb.up) hK') fun u1 H5 o5 f5 b5 => ?_
 have c5:=c4.keep f5 no2
 have B5:Bd H5 u1 1 _ H4.next H5.next:=⟨o5,b5⟩
 have B1:=B1.fr f5
 have B2:=B2.fr f5
 have B3:=B3.fr f5
 (repeat' (first | (simp only [wp,extractV,w0,reduceIte,Nat.reduceAdd,Nat.reduceLT,Nat.reduceLeDiff,Nat.reduceEqDiff,c5.b0]) | (with_reducible ((first | apply xC | apply xG | apply xQ) <;> intro hb <;> try simp only [hb]))))
 refine New_q (zf c5) (fun K' hK' => clone73 (n + 1) hsm (flat_ints _) (by simpa using hb.sems) hK') fun v1 H6 o6 f6 b6 => ?_
 have c6:=c5.keep f6 no2
 have B6:Bd H6 v1 1 _ H5.next H6.next:=⟨o6,b6⟩
 have B1:=B1.fr f6
 have B2:=B2.fr f6
 have B3:=B3.fr f6
 have B5:=B5.fr f6
 (repeat' (first | (simp only [wp,extractV,w0,reduceIte,Nat.reduceAdd,Nat.reduceLT,Nat.reduceLeDiff,Nat.reduceEqDiff,c6.b0]) | (with_reducible ((first | apply xC | apply xG | apply xQ) <;> intro hb <;> try simp only [hb]))))
 refine New_q (zf c6) (fun K' hK' => clone78 (n + 1) (.inl hpo) (by rw [hpl]; exact hb.ports) hK') fun w1 H7 o7 f7 b7 => ?_
 have c7:=c6.keep f7 no2
 have B7:Bd H7 w1 2 _ H6.next H7.next:=⟨o7,b7⟩
 have B1:=B1.fr f7
 have B2:=B2.fr f7
 have B3:=B3.fr f7
 have B5:=B5.fr f7
 have B6:=B6.fr f7
 (repeat' (first | (simp only [wp,extractV,w0,reduceIte,Nat.reduceAdd,Nat.reduceLT,Nat.reduceLeDiff,Nat.reduceEqDiff,c7.b0]) | (with_reducible ((first | apply xC | apply xG | apply xQ) <;> intro hb <;> try simp only [hb]))))
 refine New_q (zf c7) (fun K' hK' => clone77 (n + 1) hpg (flat_pas _) (by simpa using hb.pages) hK') fun g1 H8 o8 f8 b8 => ?_
 have c8:=c7.keep f8 no2
 have B8:Bd H8 g1 66 _ H7.next H8.next:=⟨o8,b8⟩
 have B1:=B1.fr f8
 have B2:=B2.fr f8
 have B3:=B3.fr f8
 have B5:=B5.fr f8
 have B6:=B6.fr f8
 have B7:=B7.fr f8
 have n5:=f5.next
 have n6:=f6.next
 have n7:=f7.next
 have n8:=f8.next
 have lw:lenV w1 = some (.int .i64 (s.ports.length:Nat)):=by rw [← hpl]; exact o7.len
 (repeat' (first | (simp only [wp,extractV,w0,reduceIte,Nat.reduceAdd,Nat.reduceLT,Nat.reduceLeDiff,Nat.reduceEqDiff,c8.b0,c8.fl,o5.cells,o6.cells,o7.cells,o8.cells,Heap.set_set,lw]) | (with_reducible ((first | apply xC | apply xG | apply xQ) <;> intro hb <;> try simp only [hb]))))
 have c9:=c8.put [i64 s.id,i64 s.fr,i64 s.ep,x1,y1,z1,u1,v1,w1,g1]
 have B1:=B1.st (n:=0) (by omega) ⟨10,[[i64 s.id,i64 s.fr,i64 s.ep,x1,y1,z1,u1,v1,w1,g1]]⟩
 have B2:=B2.st (n:=0) (by omega) ⟨10,[[i64 s.id,i64 s.fr,i64 s.ep,x1,y1,z1,u1,v1,w1,g1]]⟩
 have B3:=B3.st (n:=0) (by omega) ⟨10,[[i64 s.id,i64 s.fr,i64 s.ep,x1,y1,z1,u1,v1,w1,g1]]⟩
 have B5:=B5.st (n:=0) (by omega) ⟨10,[[i64 s.id,i64 s.fr,i64 s.ep,x1,y1,z1,u1,v1,w1,g1]]⟩
 have B6:=B6.st (n:=0) (by omega) ⟨10,[[i64 s.id,i64 s.fr,i64 s.ep,x1,y1,z1,u1,v1,w1,g1]]⟩
 have B7:=B7.st (n:=0) (by omega) ⟨10,[[i64 s.id,i64 s.fr,i64 s.ep,x1,y1,z1,u1,v1,w1,g1]]⟩
 have B8:=B8.st (n:=0) (by omega) ⟨10,[[i64 s.id,i64 s.fr,i64 s.ep,x1,y1,z1,u1,v1,w1,g1]]⟩
 have e9:(H8.set 0 ⟨10,[[i64 s.id,i64 s.fr,i64 s.ep,x1,y1,z1,u1,v1,w1,g1]]⟩).next = H8.next:=rfl
 generalize H8.set 0 ⟨10,[[i64 s.id,i64 s.fr,i64 s.ep,x1,y1,z1,u1,v1,w1,g1]]⟩ = H9 at *
 refine Run.loop (N:=s.ports.length) (fun k st Hk => st = [i64 k] ∧ ∃ rk,Cw Hk [i64 s.id,i64 s.fr,i64 s.ep,x1,y1,z1,u1,v1,w1,g1] ∧ Bd Hk w1 2 rk H6.next H7.next ∧ Lp Hk s.ports pr rk k H8.next ∧ H8.next ≤ Hk.next ∧
   Bd Hk x1 21 (s.t.ps.map prRow) H0.next H1.next ∧ Bd Hk y1 1 (s.t.q.map intRow) H1.next H2.next ∧ Bd Hk z1 2 (s.t.ts.map tmRow) H2.next H3.next ∧ Bd Hk u1 1 (s.up.map boR) H4.next H5.next ∧ Bd Hk v1 1 (s.sems.map intRow) H5.next H6.next ∧ Bd Hk g1 66 (s.pages.map paR) H7.next H8.next)
  ⟨rfl,pr,c9,B7,Lp.start hpl _,by omega,B1,B2,B3,B5,B6,B8⟩ ?_
 rintro k st Hk hk ⟨rfl,rk,ck,BW,lp,hnk,A1,A2,A3,A5,A6,A8⟩
 simp only [ferry_valid_Copy_l1]
 by_cases hlt:k < s.ports.length
 ·have hkr:k < rk.length:=by rw [lp.len]; exact hlt
  have hkp:k < pr.length:=by omega
  obtain ⟨mm,em,hm,hmb⟩:=hprow k hkp hlt
  have erk:rk[k] = [mm,i64 s.ports[k].age]:=(lp.rest k hkr hkp (Nat.le_refl _)).trans em
  obtain ⟨lP,bP,hlP,hidx,hblk,hrow,hflo⟩:=BW.own.idx (k:=.i64) hkr
  rw [erk] at hrow
  have hPb:=BW.b _ hlP
  have hms:=hb.msgs _ (List.getElem_mem hlt)
  (repeat' (first | (simp only [wp,extractV,w0,reduceIte,Nat.reduceAdd,Nat.reduceLT,Nat.reduceLeDiff,Nat.reduceEqDiff,ltT hlt,ck.fl,ck.b0,hidx,hblk,hrow]) | (with_reducible ((first | apply xC | apply xG | apply xQ) <;> intro hb <;> try simp only [hb]))))
  refine New_q (zf ck) (fun K' hK' => clone79 (n + 1) hm (flat_strs _) (by simpa using hms) hK') fun mv Hn om fm bm => ?_
  have cn:=ck.keep fm no2
  have hblk1:Hn.blk lP = some bP:=(fm.old _ (by omega) id).trans hblk
  have fl0:Hn.floor ≤ lP:=by rw [cn.fl]; exact Nat.zero_le _
  (repeat' (first | (simp only [wp,extractV,w0,reduceIte,Nat.reduceAdd,Nat.reduceLT,Nat.reduceLeDiff,Nat.reduceEqDiff,fl0,om.cells,hblk1,hrow,addN hlt (show s.ports.length ≤ big by have:=hb.ports; omega)]) | (with_reducible ((first | apply xC | apply xG | apply xQ) <;> intro hb <;> try simp only [hb]))))
  have hset:Frame Hn (Hn.set lP ⟨bP.sz,bP.rows.set k [mv,i64 s.ports[k].age]⟩) (fun m => m = lP):=Frame.set _ _ rfl
  have fb:Frame Hk (Hn.set lP ⟨bP.sz,bP.rows.set k [mv,i64 s.ports[k].age]⟩) (fun m => m = lP):=⟨fm.next,fm.floor,fun q hq hne => (hset.old q (Nat.lt_of_lt_of_le hq fm.next) hne).trans (fm.old q hq id)⟩
  have nm:=fm.next
  refine ⟨hlt,rk.set k [mv,i64 s.ports[k].age],cn.keep hset fun q e => by omega,⟨((BW.fr fm).own).put hlP hblk1 _,BW.b⟩,lp.next hkr fb (by omega) (by omega) (om.frame hset fun q h1 h2 => by have:=bm q h1; omega) hmb fun q h1 => bm q h1,by show H8.next ≤ Hn.next; omega,
   A1.keep fb fun q e => by omega,A2.keep fb fun q e => by omega,A3.keep fb fun q e => by omega,A5.keep fb fun q e => by omega,A6.keep fb fun q e => by omega,A8.keep fb fun q e => by omega⟩
 ·obtain ⟨r1,hr1,hl1⟩:=ck.b1
  have z10:10 ≤ r1.length:=by omega
  have dp:r1.drop 10 = []:=List.drop_of_length_le (by omega)
  have n10:¬ (1:Nat) = 0:=by decide
  (repeat' (first | (simp only [wp,extractV,w0,reduceIte,Nat.reduceAdd,Nat.reduceLT,Nat.reduceLeDiff,Nat.reduceEqDiff,ltF hlt,ck.b0,ck.fl,hr1,z10,dp,tupV]) | (with_reducible ((first | apply xC | apply xG | apply xQ) <;> intro hb <;> try simp only [hb]))))
  obtain ⟨P1,P2,P3⟩:=lp.all (by omega)
  have fz:Frame Hk (Hk.set 1 ⟨10,[[i64 s.id,i64 s.fr,i64 s.ep,x1,y1,z1,u1,v1,w1,g1]]⟩) (fun m => m = 1):=Frame.set _ _ rfl
  have ms:MS (Hk.set 1 ⟨10,[[i64 s.id,i64 s.fr,i64 s.ep,x1,y1,z1,u1,v1,w1,g1]]⟩) [i64 s.id,i64 s.fr,i64 s.ep,x1,y1,z1,u1,v1,w1,g1] s x1 y1 z1 u1 v1 w1 g1 rk :=
   ⟨rfl,(A1.keep fz fun q e => by omega).own,(A2.keep fz fun q e => by omega).own,(A3.keep fz fun q e => by omega).own,(A5.keep fz fun q e => by omega).own,(A6.keep fz fun q e => by omega).own,(BW.keep fz fun q e => by omega).own,(A8.keep fz fun q e => by omega).own,
    P1.frame fz fun q h1 h2 => by have:=P3 q h1; omega,nd_of A1.b A2.b A3.b (e4 ▸ A5.b) A6.b BW.b A8.b (fun q hq => (P3 q hq).1) P2 (by omega)⟩
  obtain ⟨r,h1,h2⟩:=ms.hand
  refine ⟨r,h1,(h2 K hK).mono fun vv K' ⟨l',x',y',z',u',v',w',g',pr',e,h3,h4,h5⟩ => ?_⟩
  exact ⟨l',x',y',z',u',v',w',g',pr',e,h3,h4,h5⟩
end Sy
end Go.Fv.Tr
namespace Go.Fv.Tr
open Go Go.Fv Go.Fv.Pl Go.Proofs
variable {G:GV}
namespace Sy
variable {l m:List V} {s:St} {p:Pn} {x y z a b c d x' y' z' u v w g:V} {pr:List (List V)} {k:List V} {H H' K:Heap}
structure Cx (H:Heap) (row:List V):Prop where
 fl:H.floor = 0
 nx:3 ≤ H.next
 b0:H.blk 0 = some ⟨10,[row]⟩
 b2:∃ z,H.blk 2 = some ⟨10,[z]⟩ ∧ z.length = 10
theorem Cx.keep {row:List V} (h:Cx H row) {P:Nat → Prop} (f:Frame H H' P) (hp:∀ m,P m → 3 ≤ m):Cx H' row:=by
 have:=h.nx
 obtain ⟨z,h1,h2⟩:=h.b2
 exact ⟨f.floor.trans h.fl,Nat.le_trans h.nx f.next,(f.old 0 (by omega) fun g => by have:=hp _ g; omega).trans h.b0,z,(f.old 2 (by omega) fun g => by have:=hp _ g; omega).trans h1,h2⟩
theorem Cx.put {row:List V} (h:Cx H row) (row':List V):Cx (H.set 0 ⟨10,[row']⟩) row':=by
 obtain ⟨z,h1,h2⟩:=h.b2
 exact ⟨h.fl,h.nx,by rw [Heap.set_blk,if_pos rfl],z,by rw [Heap.set_blk,if_neg (by decide)]; exact h1,h2⟩
def TbB (t:Tab):Prop:=(∀ p ∈ t.ps,Wp p) ∧ t.ps.length * 104 ≤ room ∧ t.q.length * 8 ≤ room ∧ t.ts.length * 16 ≤ room
end Sy
end Go.Fv.Tr
