/-
  What the functions of the layer 9 answer: Block, Wake. By an AI agent; no person has read it.
-/
import Derived.Test.YtekncgjkocgioaaGreatDoorFvP39
set_option linter.unusedVariables false
set_option linter.unusedSimpArgs false
set_option linter.unusedSectionVars false
/-! What the functions of the layer 9 answer: Block, Wake. -/
namespace Go.Fv.Tr
open Go Go.Fv Go.Fv.Pl Go.Proofs
variable {G:GV}
theorem row16 {p:Pr} (h:Wp p):∃ a0 a1 a2 a3 a4 a5 a6 a7 a8 a9 a10 a11 a12 a13 a14 a15:Int,p.regs = [a0,a1,a2,a3,a4,a5,a6,a7,a8,a9,a10,a11,a12,a13,a14,a15] ∧
  prRow p = [.int .u32 a0,.int .u32 a1,.int .u32 a2,.int .u32 a3,.int .u32 a4,.int .u32 a5,.int .u32 a6,.int .u32 a7,.int .u32 a8,.int .u32 a9,.int .u32 a10,.int .u32 a11,.int .u32 a12,.int .u32 a13,.int .u32 a14,.int .u32 a15,
   .int .u32 p.pc,.int .i64 p.state,.int .i64 p.prio,.int .i64 p.wait,.int .i64 p.obj]:=by
 obtain ⟨a0,a1,a2,a3,a4,a5,a6,a7,a8,a9,a10,a11,a12,a13,a14,a15,hr⟩:=len16 h
 exact ⟨_,_,_,_,_,_,_,_,_,_,_,_,_,_,_,_,hr,by unfold prRow; rw [hr]; rfl⟩
theorem sls_thaw {x:V} {sz:Nat} {rows:List (List V)} (h:Sls x sz rows) (H:Heap):thaw true H x = some x:=by
 rcases h with rfl | ⟨_,rfl | rfl⟩ <;> simp [thaw,V.flat,V.closed]
theorem OwnTab.show3 {H K':Heap} {x y z z':V} {u:Tab} {ts:List Tm} (h:OwnTab H x y z u) (hw:∀ p ∈ u.ps,Wp p) (hz:Sls z' 2 (ts.map tmRow)) (hb:TabOk ⟨u.ps,u.q,ts⟩)
  (hK:∀ k b,(loc x = some k ∨ loc y = some k) → H.blk k = some b → K'.blk k = some b):∃ a b,thaw2 true K' (.agg [x,y,z']) = some (.agg [a,b,z']) ∧ IsTab a b z' ⟨u.ps,u.q,ts⟩:=by
 have n1:∀ {v:V} {sz:Nat} {rows:List (List V)},Own H v sz rows → (∀ k,loc v = some k → loc x = some k ∨ loc y = some k) → Own ⟨K'.blk,H.next,H.floor⟩ v sz rows:=fun {v sz rows} o hv => by
  rcases o with o | ⟨l,n,c,ex,b,rfl,h1,h2,h3,h4⟩
  ·exact .inl o
  ·exact .inr ⟨l,n,c,ex,b,rfl,hK _ _ (hv _ rfl) h1,h2,h3,h4⟩
 obtain ⟨a,a1,a2⟩:=(n1 h.p fun k g => .inl g).thaw (flat_pr _) true
 obtain ⟨b,b1,b2⟩:=(n1 h.q fun k g => .inr g).thaw (flat_ir _) true
 have e1:∀ v,thaw true K' v = thaw true ⟨K'.blk,H.next,H.floor⟩ v:=fun v => mapM_eq (H:=⟨K'.blk,H.next,H.floor⟩) (fun _ => rfl) v
 have e2:[x,y,z'].mapM (thaw true K') = some [a,b,z']:=by simp [e1,a1,b1,sls_thaw hz]
 exact ⟨a,b,by simp only [thaw2,e2]; rfl,a2,b2,hz,hw,big_of hb⟩
theorem OwnTab.show1 {H K':Heap} {x y z:V} {u:Tab} (h:OwnTab H x y z u) (hw:∀ p ∈ u.ps,Wp p) (hb:TabOk u)
  (hK:∀ k b,(loc x = some k ∨ loc y = some k ∨ loc z = some k) → H.blk k = some b → K'.blk k = some b) (ok:Bool):∃ a b c,thaw2 ok K' (.agg [x,y,z]) = some (.agg [a,b,c]) ∧ IsTab a b c u:=by
 have n1:∀ {v:V} {sz:Nat} {rows:List (List V)},Own H v sz rows → (∀ k,loc v = some k → loc x = some k ∨ loc y = some k ∨ loc z = some k) → Own ⟨K'.blk,H.next,H.floor⟩ v sz rows:=fun {v sz rows} o hv => by
  rcases o with o | ⟨l,n,c,ex,b,rfl,h1,h2,h3,h4⟩
  ·exact .inl o
  ·exact .inr ⟨l,n,c,ex,b,rfl,hK _ _ (hv _ rfl) h1,h2,h3,h4⟩
 obtain ⟨a,b,c,q1,q2⟩:=thaw2_tab (H:=⟨K'.blk,H.next,H.floor⟩) ⟨n1 h.p fun k g => .inl g,n1 h.q fun k g => .inr (.inl g),n1 h.s fun k g => .inr (.inr g),h.pq,h.ps,h.qs⟩ hw hb ok
 exact ⟨a,b,c,(thaw2_eq (H:=⟨K'.blk,H.next,H.floor⟩) (H':=K') (fun _ => rfl) _).trans q1,q2⟩
set_option maxRecDepth 20000 in
theorem block_spec (hG:Errs G) (n:Nat) {x y z:V} {t:Tab} (h:IsTab x y z t) (p w o d:Int) :
  ∃ r,callV (cfg G) (sem (cfg G) (n + 8)) 90 [.agg [x,y,z],.int .i64 p,.int .i64 w,.int .i64 o,.int .i64 d] = M.ret r ∧ Ans t (inOk t p [1] ∧ blkOk w o d) (Tab.block t p w o d) r:=by
 refine callV_pureE rfl (by simp [h.closed,cI]) ?_
 rw [ferry_ready_Block_eq]
 simp only [ferry_ready_Block,ferry_ready_Block_j1]
 (repeat' (first | (simp only [wp,extractV,w0,reduceIte,Nat.reduceAdd,Nat.reduceLT,Nat.reduceLeDiff,Nat.reduceEqDiff,Run.slice,fillRows,List.replicate_succ,List.replicate_zero]) | (with_reducible ((first | apply xC | apply xG | apply xQ) <;> intro hb <;> try simp only [hb]))))
 refine (in_spec hG n h p (w:=.imm 1 [[.int .i64 1]]) (ss:=[1]) (Sls.imm _ _) (by decide) (Nat.zero_le _) ?_).mono fun v H1 hres => ?_
 ·rw [List.mapM_cons,thawV_closed h.closed]
  rfl
 rcases hres with ⟨hok,hin,u,rfl,a,b,c,rfl,o1,f,ll⟩ | ⟨hok,rfl,rfl⟩ | ⟨hok,hin,rfl,rfl⟩
 ·have few:=((ROk_iff t).2 hok).few
  have e1:H1.floor = 0:=f.floor
  have i1:=InB.start o1 f (Nat.zero_le _) ll h.wp
  have n1:3 ≤ H1.next:=f.next
  have z1:¬ 1 = H1.next:=by omega
  have b1:H1.blk 1 = some ⟨3,[[.nils,.nils,.nils]]⟩:=(f.old 1 (by simp [Heap.add_next,Heap.empty_next]) id).trans rfl
  have hin':=hin
  obtain ⟨q,hq,hs⟩:=hin
  have hs1:q.state = 1:=by simpa using hs
  have hlt0:=at?_lt hq
  obtain ⟨k,rfl⟩:=Int.eq_ofNat_of_zero_le hlt0.1
  have hk:k < t.ps.length:=by omega
  by_cases hnb:blkOk w o d
  ·have c1:decide (w < 1) = false:=decide_eq_false (by have:=hnb.1; omega)
   have c2:decide (4 < w) = false:=decide_eq_false (by have:=hnb.1; omega)
   have c3:decide (o < 0) = false:=decide_eq_false (by have:=hnb.2.1; omega)
   have c4:decide (d < -1) = false:=decide_eq_false (by have:=hnb.2.2.2; omega)
   have c5:decide (1010000 < d) = false:=decide_eq_false (by have:=hnb.2.2.2; omega)
   have cs:(w == 1) = true ∧ (o == 0) = true ∧ (d == -1) = false ∨ (w == 1) = false:=by
    by_cases hw:w = 1
    ·have:=hnb.2.2.1 hw
     exact .inl (by simp [hw,this.1,this.2])
    ·exact .inr (by simpa using hw)
   obtain ⟨a0,a1,a2,a3,a4,a5,a6,a7,a8,a9,a10,a11,a12,a13,a14,a15,hr,hrow⟩:=row16 (h.wp _ (List.getElem_mem hk))
   have hrow':prRow (blockP w o t.ps[k]) = [.int .u32 a0,.int .u32 a1,.int .u32 a2,.int .u32 a3,.int .u32 a4,.int .u32 a5,.int .u32 a6,.int .u32 a7,.int .u32 a8,.int .u32 a9,.int .u32 a10,.int .u32 a11,.int .u32 a12,.int .u32 a13,.int .u32 a14,.int .u32 a15,
    .int .u32 t.ps[k].pc,.int .i64 2,.int .i64 t.ps[k].prio,.int .i64 w,.int .i64 o]:=by unfold prRow blockP; rw [hr]; rfl
   have hok':=TabOk.block hok hq hs1 hnb
   rcases cs with ⟨s1,s2,s3⟩ | s1
   ·(repeat' (first | (simp only [wp,extractV,w0,reduceIte,Nat.reduceAdd,Nat.reduceLT,Nat.reduceLeDiff,Nat.reduceEqDiff,e1,s1,s2,s3,c1,c2,c3,c4,c5]) | (with_reducible ((first | apply xC | apply xG | apply xQ) <;> intro hb <;> try simp only [hb]))))
    refine (i1.leave (n + 3) (by unfold big; omega) k).mono fun _ H2 ⟨i2,n2⟩ => ?_
    obtain ⟨xx,yy,zz,lx,B,q1,q2,q3,q4,q5,q6,q7,q8,q9,put⟩:=i2.proc (p:=k) hk
    have q4':B.rows[k]? = some (prRow t.ps[k]):=q4
    rw [hrow] at q4'
    have hgs:∀ r,(B.rows.set k r)[k]? = some r:=fun r => List.getElem?_set_self q5
    have z2:¬ H1.next = lx:=fun e => q7 e.symm
    have z3:¬ 1 = lx:=by have:3 ≤ lx:=q8; omega
    have e2:H2.floor = 0:=i2.fl
    have i3:=put (blockP w o) (show Wp (blockP w o t.ps[k]) from h.wp t.ps[k] (List.getElem_mem hk))
    have d1:H2.blk 1 = some ⟨3,[[.nils,.nils,.nils]]⟩:=(i2.old 1 (by simp [Heap.add_next,Heap.empty_next])).trans rfl
    have k3':∀ j,3 ≤ j → ¬ j = 1:=fun j hj => by omega
    obtain ⟨x3,y3,z3',q10,o3,k3⟩:=i3.tab
    have e3:x3 = xx ∧ y3 = yy ∧ z3' = zz:=by
     rw [Heap.set_blk,if_neg z2,q1] at q10
     cases q10
     exact ⟨rfl,rfl,rfl⟩
    obtain ⟨rfl,rfl,rfl⟩:=e3
    by_cases hd:0 ≤ d
    ·(repeat' (first | (simp only [wp,extractV,w0,reduceIte,Nat.reduceAdd,Nat.reduceLT,Nat.reduceLeDiff,Nat.reduceEqDiff,q1,q2,q3,q4',hgs,Heap.set_set,List.set_set,e2,z2,z3,decide_eq_true hd]) | (with_reducible ((first | apply xC | apply xG | apply xQ) <;> intro hb <;> try simp only [hb]))))
     rw [← hrow']
     obtain ⟨zi,g1,_,g3⟩:=o3.s.thawV (flat_tm _) true
     refine Run.ans (bs:=[zi,.int .i64 k,.int .i64 d]) rfl ?_ (set_spec hG.s n g3 h.big.2.2 k d) fun r hr => ?_
     ·rw [List.mapM_cons,show thawV true _ z3' = some zi from g1]
      simp [thawV,thaw,V.flat]
     have hts:TsOk 8 t.ts:=by
      have:=hok.ts
      have h8:=hok.few
      rw [TsOk_iff] at this ⊢
      exact ⟨fun a ha => by have:=this.1 a ha; unfold right at *; omega,this.2⟩
     have hri:right 8 ⟨(k:Int),d⟩:=by
      have:=hnb.2.2.2
      have h8:=hok.few
      unfold right; simp only; omega
     rcases hr with ⟨_,_,zs,rfl,sz⟩ | ⟨_,g,_⟩ | ⟨g,_⟩
     ·have sz':Sls zs 2 ((if 0 ≤ d then setT t.ts k d else t.ts).map tmRow):=by rw [if_pos hd]; exact sz
      (repeat' (first | (simp only [wp,extractV,w0,reduceIte,Nat.reduceAdd,Nat.reduceLT,Nat.reduceLeDiff,Nat.reduceEqDiff,q1,z2,z3,e2,sz.cells,d1,z1,tupV]) | (with_reducible ((first | apply xC | apply xG | apply xQ) <;> intro hb <;> try simp only [hb]))))
      obtain ⟨a',b',s1,s2⟩:=o3.show3 (K':=((H2.set lx ⟨B.sz,B.rows.set k (prRow (blockP w o t.ps[k]))⟩).set H1.next ⟨3,[[x3,y3,zs]]⟩).set 1 ⟨3,[[x3,y3,zs]]⟩) i3.wp sz' hok' fun k' b' hk' hb' => by
       have:3 ≤ k' ∧ k' ≠ H1.next:=k3 k' (hk'.imp id .inl)
       rw [Heap.set_blk,if_neg (by omega),Heap.set_blk,if_neg this.2]
       exact hb'
      exact ⟨_,thawV_tup (mapM2 s1 (thaw2_nili _ _)),.inl ⟨hok,⟨hin',hnb⟩,_,_,_,rfl,s2⟩⟩
     ·exact absurd hri g
     ·exact absurd hts g
    ·(repeat' (first | (simp only [wp,extractV,w0,reduceIte,Nat.reduceAdd,Nat.reduceLT,Nat.reduceLeDiff,Nat.reduceEqDiff,q1,q2,q3,q4',hgs,Heap.set_set,List.set_set,e2,z2,z3,decide_eq_false hd,d1,z1,tupV]) | (with_reducible ((first | apply xC | apply xG | apply xQ) <;> intro hb <;> try simp only [hb]))))
     rw [← hrow']
     have hok'':TabOk ⟨setP t.ps (k:Int) (blockP w o),t.q.filter (· ≠ (k:Int)),t.ts⟩:=by
      have:=hok'
      unfold Tab.block at this
      rwa [if_neg hd] at this
     have eb:Tab.block t k w o d = ⟨setP t.ps (k:Int) (blockP w o),t.q.filter (· ≠ (k:Int)),t.ts⟩:=by unfold Tab.block; rw [if_neg hd]
     obtain ⟨a',b',c',s1,s2⟩:=o3.show1 (K':=(H2.set lx ⟨B.sz,B.rows.set k (prRow (blockP w o t.ps[k]))⟩).set 1 ⟨3,[[x3,y3,z3']]⟩) i3.wp hok'' (fun k' b' hk' hb' => by
      have:3 ≤ k' ∧ k' ≠ H1.next:=k3 k' hk'
      rw [Heap.set_blk,if_neg (by omega)]
      exact hb') true
     exact ⟨_,thawV_tup (mapM2 s1 (thaw2_nili _ _)),.inl ⟨hok,⟨hin',hnb⟩,_,_,_,rfl,by rw [eb]; exact s2⟩⟩
   ·(repeat' (first | (simp only [wp,extractV,w0,reduceIte,Nat.reduceAdd,Nat.reduceLT,Nat.reduceLeDiff,Nat.reduceEqDiff,e1,s1,c1,c2,c3,c4,c5]) | (with_reducible ((first | apply xC | apply xG | apply xQ) <;> intro hb <;> try simp only [hb]))))
    refine (i1.leave (n + 3) (by unfold big; omega) k).mono fun _ H2 ⟨i2,n2⟩ => ?_
    obtain ⟨xx,yy,zz,lx,B,q1,q2,q3,q4,q5,q6,q7,q8,q9,put⟩:=i2.proc (p:=k) hk
    have q4':B.rows[k]? = some (prRow t.ps[k]):=q4
    rw [hrow] at q4'
    have hgs:∀ r,(B.rows.set k r)[k]? = some r:=fun r => List.getElem?_set_self q5
    have z2:¬ H1.next = lx:=fun e => q7 e.symm
    have z3:¬ 1 = lx:=by have:3 ≤ lx:=q8; omega
    have e2:H2.floor = 0:=i2.fl
    have i3:=put (blockP w o) (show Wp (blockP w o t.ps[k]) from h.wp t.ps[k] (List.getElem_mem hk))
    have d1:H2.blk 1 = some ⟨3,[[.nils,.nils,.nils]]⟩:=(i2.old 1 (by simp [Heap.add_next,Heap.empty_next])).trans rfl
    have k3':∀ j,3 ≤ j → ¬ j = 1:=fun j hj => by omega
    obtain ⟨x3,y3,z3',q10,o3,k3⟩:=i3.tab
    have e3:x3 = xx ∧ y3 = yy ∧ z3' = zz:=by
     rw [Heap.set_blk,if_neg z2,q1] at q10
     cases q10
     exact ⟨rfl,rfl,rfl⟩
    obtain ⟨rfl,rfl,rfl⟩:=e3
    by_cases hd:0 ≤ d
    ·(repeat' (first | (simp only [wp,extractV,w0,reduceIte,Nat.reduceAdd,Nat.reduceLT,Nat.reduceLeDiff,Nat.reduceEqDiff,q1,q2,q3,q4',hgs,Heap.set_set,List.set_set,e2,z2,z3,decide_eq_true hd]) | (with_reducible ((first | apply xC | apply xG | apply xQ) <;> intro hb <;> try simp only [hb]))))
     rw [← hrow']
     obtain ⟨zi,g1,_,g3⟩:=o3.s.thawV (flat_tm _) true
     refine Run.ans (bs:=[zi,.int .i64 k,.int .i64 d]) rfl ?_ (set_spec hG.s n g3 h.big.2.2 k d) fun r hr => ?_
     ·rw [List.mapM_cons,show thawV true _ z3' = some zi from g1]
      simp [thawV,thaw,V.flat]
     have hts:TsOk 8 t.ts:=by
      have:=hok.ts
      have h8:=hok.few
      rw [TsOk_iff] at this ⊢
      exact ⟨fun a ha => by have:=this.1 a ha; unfold right at *; omega,this.2⟩
     have hri:right 8 ⟨(k:Int),d⟩:=by
      have:=hnb.2.2.2
      have h8:=hok.few
      unfold right; simp only; omega
     rcases hr with ⟨_,_,zs,rfl,sz⟩ | ⟨_,g,_⟩ | ⟨g,_⟩
     ·have sz':Sls zs 2 ((if 0 ≤ d then setT t.ts k d else t.ts).map tmRow):=by rw [if_pos hd]; exact sz
      (repeat' (first | (simp only [wp,extractV,w0,reduceIte,Nat.reduceAdd,Nat.reduceLT,Nat.reduceLeDiff,Nat.reduceEqDiff,q1,z2,z3,e2,sz.cells,d1,z1,tupV]) | (with_reducible ((first | apply xC | apply xG | apply xQ) <;> intro hb <;> try simp only [hb]))))
      obtain ⟨a',b',s1,s2⟩:=o3.show3 (K':=((H2.set lx ⟨B.sz,B.rows.set k (prRow (blockP w o t.ps[k]))⟩).set H1.next ⟨3,[[x3,y3,zs]]⟩).set 1 ⟨3,[[x3,y3,zs]]⟩) i3.wp sz' hok' fun k' b' hk' hb' => by
       have:3 ≤ k' ∧ k' ≠ H1.next:=k3 k' (hk'.imp id .inl)
       rw [Heap.set_blk,if_neg (by omega),Heap.set_blk,if_neg this.2]
       exact hb'
      exact ⟨_,thawV_tup (mapM2 s1 (thaw2_nili _ _)),.inl ⟨hok,⟨hin',hnb⟩,_,_,_,rfl,s2⟩⟩
     ·exact absurd hri g
     ·exact absurd hts g
    ·(repeat' (first | (simp only [wp,extractV,w0,reduceIte,Nat.reduceAdd,Nat.reduceLT,Nat.reduceLeDiff,Nat.reduceEqDiff,q1,q2,q3,q4',hgs,Heap.set_set,List.set_set,e2,z2,z3,decide_eq_false hd,d1,z1,tupV]) | (with_reducible ((first | apply xC | apply xG | apply xQ) <;> intro hb <;> try simp only [hb]))))
     rw [← hrow']
     have hok'':TabOk ⟨setP t.ps (k:Int) (blockP w o),t.q.filter (· ≠ (k:Int)),t.ts⟩:=by
      have:=hok'
      unfold Tab.block at this
      rwa [if_neg hd] at this
     have eb:Tab.block t k w o d = ⟨setP t.ps (k:Int) (blockP w o),t.q.filter (· ≠ (k:Int)),t.ts⟩:=by unfold Tab.block; rw [if_neg hd]
     obtain ⟨a',b',c',s1,s2⟩:=o3.show1 (K':=(H2.set lx ⟨B.sz,B.rows.set k (prRow (blockP w o t.ps[k]))⟩).set 1 ⟨3,[[x3,y3,z3']]⟩) i3.wp hok'' (fun k' b' hk' hb' => by
      have:3 ≤ k' ∧ k' ≠ H1.next:=k3 k' hk'
      rw [Heap.set_blk,if_neg (by omega)]
      exact hb') true
     exact ⟨_,thawV_tup (mapM2 s1 (thaw2_nili _ _)),.inl ⟨hok,⟨hin',hnb⟩,_,_,_,rfl,by rw [eb]; exact s2⟩⟩
  ·(repeat' (first | (simp only [wp,extractV,w0,reduceIte,Nat.reduceAdd,Nat.reduceLT,Nat.reduceLeDiff,Nat.reduceEqDiff,e1,b1,z1,glob_at hG.arg,buildV,fill,apartV,tupV]) | (with_reducible ((first | apply xC | apply xG | apply xQ) <;> intro hb <;> try simp only [hb]))))
   all_goals first
    | exact ⟨_,thaw_bad _ _,.inr (.inr ⟨hok,fun g => hnb g.2,rfl⟩)⟩
    | (exfalso; simp only [decide_eq_true_eq,decide_eq_false_iff_not,beq_iff_eq,beq_eq_false_iff_ne,ne_eq] at *; exact hnb ⟨by omega,by omega,fun _ => by omega,by omega⟩)
 ·(repeat' (first | (simp only [wp,extractV,w0,reduceIte,Nat.reduceAdd,Nat.reduceLT,Nat.reduceLeDiff,Nat.reduceEqDiff,badV,eq_err,buildV,fill,tupV]) | (with_reducible ((first | apply xC | apply xG | apply xQ) <;> intro hb <;> try simp only [hb]))))
  exact ⟨_,thaw_bad _ _,.inr (.inl ⟨hok,rfl⟩)⟩
 ·(repeat' (first | (simp only [wp,extractV,w0,reduceIte,Nat.reduceAdd,Nat.reduceLT,Nat.reduceLeDiff,Nat.reduceEqDiff,badV,eq_err,buildV,fill,tupV]) | (with_reducible ((first | apply xC | apply xG | apply xQ) <;> intro hb <;> try simp only [hb]))))
  exact ⟨_,thaw_bad _ _,.inr (.inr ⟨hok,fun g => hin g.1,rfl⟩)⟩
set_option maxRecDepth 20000 in
theorem wakeR_spec (hG:Errs G) (n:Nat) {x y z:V} {t:Tab} (h:IsTab x y z t) (p r1:Int) :
  ∃ r,callV (cfg G) (sem (cfg G) (n + 8)) 96 [.agg [x,y,z],.int .i64 p,.int .u32 r1] = M.ret r ∧ Ans t (inOk t p [2]) (t.wake p r1) r:=by
 refine callV_pureE rfl (by simp [h.closed,cI]) ?_
 rw [ferry_ready_Wake_eq]
 simp only [ferry_ready_Wake]
 (repeat' (first | (simp only [wp,extractV,w0,reduceIte,Nat.reduceAdd,Nat.reduceLT,Nat.reduceLeDiff,Nat.reduceEqDiff,Run.slice,fillRows,List.replicate_succ,List.replicate_zero]) | (with_reducible ((first | apply xC | apply xG | apply xQ) <;> intro hb <;> try simp only [hb]))))
 refine (in_spec hG n h p (w:=.imm 1 [[.int .i64 2]]) (ss:=[2]) (Sls.imm _ _) (by decide) (Nat.zero_le _) ?_).mono fun v H1 hres => ?_
 ·rw [List.mapM_cons,thawV_closed h.closed]
  rfl
 rcases hres with ⟨hok,hin,u,rfl,a,b,c,rfl,o1,f,ll⟩ | ⟨hok,rfl,rfl⟩ | ⟨hok,hin,rfl,rfl⟩
 ·have few:=((ROk_iff t).2 hok).few
  have e1:H1.floor = 0:=f.floor
  have i1:=InB.start o1 f (Nat.zero_le _) ll h.wp
  have n1:3 ≤ H1.next:=f.next
  have z1:¬ 1 = H1.next:=by omega
  have hin':=hin
  obtain ⟨q,hq,hs⟩:=hin
  have hs1:q.state = 2:=by simpa using hs
  (repeat' (first | (simp only [wp,extractV,w0,reduceIte,Nat.reduceAdd,Nat.reduceLT,Nat.reduceLeDiff,Nat.reduceEqDiff,e1]) | (with_reducible ((first | apply xC | apply xG | apply xQ) <;> intro hb <;> try simp only [hb]))))
  refine (i1.wake (n + 3) hok hq r1).mono fun _ H2 ⟨i2,n2⟩ => ?_
  have d1:H2.blk 1 = some ⟨3,[[.nils,.nils,.nils]]⟩:=(i2.old 1 (by simp [Heap.add_next,Heap.empty_next])).trans rfl
  have e2:H2.floor = 0:=i2.fl
  obtain ⟨x3,y3,z3,q10,o3,k3⟩:=i2.tab
  (repeat' (first | (simp only [wp,extractV,w0,reduceIte,Nat.reduceAdd,Nat.reduceLT,Nat.reduceLeDiff,Nat.reduceEqDiff,q10,e2,d1,z1,tupV]) | (with_reducible ((first | apply xC | apply xG | apply xQ) <;> intro hb <;> try simp only [hb]))))
  obtain ⟨a',b',c',s1,s2⟩:=o3.show1 (K':=H2.set 1 ⟨3,[[x3,y3,z3]]⟩) i2.wp (hok.wake hq hs1 r1) (fun k' b' hk' hb' => by
   have:3 ≤ k' ∧ k' ≠ H1.next:=k3 k' hk'
   rw [Heap.set_blk,if_neg (by omega)]
   exact hb') true
  exact ⟨_,thawV_tup (mapM2 s1 (thaw2_nili _ _)),.inl ⟨hok,hin',_,_,_,rfl,s2⟩⟩
 ·(repeat' (first | (simp only [wp,extractV,w0,reduceIte,Nat.reduceAdd,Nat.reduceLT,Nat.reduceLeDiff,Nat.reduceEqDiff,badV,eq_err,buildV,fill,tupV]) | (with_reducible ((first | apply xC | apply xG | apply xQ) <;> intro hb <;> try simp only [hb]))))
  exact ⟨_,thaw_bad _ _,.inr (.inl ⟨hok,rfl⟩)⟩
 ·(repeat' (first | (simp only [wp,extractV,w0,reduceIte,Nat.reduceAdd,Nat.reduceLT,Nat.reduceLeDiff,Nat.reduceEqDiff,badV,eq_err,buildV,fill,tupV]) | (with_reducible ((first | apply xC | apply xG | apply xQ) <;> intro hb <;> try simp only [hb]))))
  exact ⟨_,thaw_bad _ _,.inr (.inr ⟨hok,fun g => hin g,rfl⟩)⟩
end Go.Fv.Tr
namespace Go.Fv.Tr
open Go Go.Fv Go.Proofs
set_option maxRecDepth 20000
end Go.Fv.Tr
namespace Go.Fv.Tr
open Go Go.Fv Go.Fv.Pl Go.Proofs
variable {G:GV}
end Go.Fv.Tr
namespace Go.Fv.Tr
open Go Go.Fv Go.Fv.Pl Go.Proofs
variable {G:GV}
variable {K H H3:Heap} {lt:Nat} {u:Tab}
end Go.Fv.Tr
namespace Go.Fv.Tr
open Go Go.Fv Go.Fv.Pl Go.Proofs
variable {G:GV}
variable {K H H3:Heap} {lt:Nat} {u:Tab}
end Go.Fv.Tr
namespace Go.Fv.Tr
open Go Go.Fv Go.Fv.Pl Go.Proofs
variable {G:GV}
namespace Sy
variable {l m:List V} {s:St} {p:Pn} {x y z a b c d x' y' z' u v w g:V} {pr:List (List V)} {k:List V} {H H' K:Heap} {i:Nat} {pc tk ft:Int} {rep:V}
def doWait (s:St) (pc tk wk o:Int):St :=
 if regAt s pc 2 = 0 then setR s pc 1 4294967294 else { s with t:=Tab.block s.t pc wk o (if regAt s pc 2 = 4294967295 then -1 else tk + regAt s pc 2) }
structure Can (s:St) (pc tk:Int):Prop where
 ok:TabOk s.t
 run:(at? s.t.ps pc).map Pr.state = some 1
 tk:0 ≤ tk ∧ tk ≤ 10000
 reg:∀ k,k < 16 → RegOk (regAt s pc k)
theorem q_table {vis:Nat → Bool} (n:Nat) (h:ClX H i p s pc tk rep ft a b c d x y z u v w g pr) (hf:H.floor = 0) (hv:∀ q,q < H.next → vis q = true) {Q:V → Heap → Prop}
  (q:∀ a1 b1 c1 H',IsTab a1 b1 c1 s.t → Frame H H' (fun _ => False) → Q (.agg [a1,b1,c1]) H'):Run (qrun vis (callV (cfg G) (sem (cfg G) (n + 3)) 85 [.ptr i 0 0])) H Q:=by
 refine Run.qAll (P:=fun r _ => ∃ a b c,r = .agg [a,b,c] ∧ IsTab a b c s.t) hv (fun K k1 k2 k3 => ?_) fun r K' H' ⟨a1,b1,c1,e,ht⟩ f _ _ => ?_
 ·exact (table_run n h k1 k3 k2).mono fun r K' ⟨e,f⟩ => ⟨f,e⟩
 ·subst e
  exact q _ _ _ _ ht f
theorem tab_bnd {t:Tab} (h:TabOk t) (ht:IsTab a b c t):TbB t:=⟨ht.wp,(small_of h).1,(small_of h).2,(small_of h).3⟩
theorem Ans.yes {t u:Tab} {ok:Prop} {r:V} (h:Ans t ok u r) (h1:TabOk t) (h2:ok):∃ a b c,r = .tuple [.agg [a,b,c],.nili] ∧ IsTab a b c u:=by
 rcases h with ⟨_,_,h⟩ | ⟨g,_⟩ | ⟨_,g,_⟩
 ·exact h
 ·exact absurd h1 g
 ·exact absurd h2 g
theorem Can.inOk {pc tk:Int} (h:Can s pc tk):inOk s.t pc [1]:=by
 obtain ⟨q,h1,h2⟩:=Option.map_eq_some_iff.1 h.run
 exact ⟨q,h1,by simp [h2]⟩
theorem block_len (t:Tab) (n w o d:Int):(Tab.block t n w o d).ps.length = t.ps.length:=setP_len _ _ _
theorem Can.block {pc tk wk o d:Int} (h:Can s pc tk) (hb:blkOk wk o d):TabOk (Tab.block s.t pc wk o d):=by
 obtain ⟨q,h1,h2⟩:=Option.map_eq_some_iff.1 h.run
 exact TabOk.block h.ok h1 h2 hb
set_option maxRecDepth 20000 in
set_option maxHeartbeats 1000000 in
theorem wait_run (hA:BErrs G) (n:Nat) (h:ClX H i p s pc tk rep ft a b c d x y z u v w g pr) (hf:H.floor = 0) (hc:Can s pc tk) {wk o:Int} (hwk:2 ≤ wk ∧ wk ≤ 4) (ho:0 ≤ o) (hto:timeOk (regAt s pc 2)) :
  Run (callV (cfg G) (sem (cfg G) (n + 9)) 94 [.ptr i 0 0,i64 wk,i64 o]) H fun r H' => r = .tuple [] ∧ Cl H i p (doWait s pc tk wk o) pc tk rep ft (fp i x y z u v w g pr) H':=by
 have hb:=h.blk
 rw [callV_inl rfl,ferry_sys_caller_wait_eq]
 simp only [ferry_sys_caller_wait]
 (repeat' (first | (simp only [wp,extractV,w0,reduceIte,Nat.reduceAdd,Nat.reduceLT,Nat.reduceLeDiff,Nat.reduceEqDiff]) | (with_reducible ((first | apply xC | apply xG | apply xQ) <;> intro hb <;> try simp only [hb]))))
 refine reg_run (n + 7) h (n:=2) (by decide) ?_
 have hr2:=hc.reg 2 (by decide)
 by_cases h0:regAt s pc 2 = 0
 ·have e0:(regAt s pc 2 == 0) = true:=by simpa using h0
  (repeat' (first | (simp only [wp,extractV,w0,reduceIte,Nat.reduceAdd,Nat.reduceLT,Nat.reduceLeDiff,Nat.reduceEqDiff,e0]) | (with_reducible ((first | apply xC | apply xG | apply xQ) <;> intro hb <;> try simp only [hb]))))
  refine (answer_run (n + 7) h hf _).mono fun r H' e => ?_
  (repeat' (first | (simp only [wp,extractV,w0,reduceIte,Nat.reduceAdd,Nat.reduceLT,Nat.reduceLeDiff,Nat.reduceEqDiff]) | (with_reducible ((first | apply xC | apply xG | apply xQ) <;> intro hb <;> try simp only [hb]))))
  unfold doWait
  rw [if_pos h0]
  exact e.2
 have e0:(regAt s pc 2 == 0) = false:=by simpa using h0
 by_cases h1:regAt s pc 2 = 4294967295
 ·have e1:(regAt s pc 2 == 4294967295) = true:=by simpa using h1
  (repeat' (first | (simp only [wp,extractV,w0,reduceIte,Nat.reduceAdd,Nat.reduceLT,Nat.reduceLeDiff,Nat.reduceEqDiff,e0,e1]) | (with_reducible ((first | apply xC | apply xG | apply xQ) <;> intro hb <;> try simp only [hb]))))
  refine q_table (n + 5) h hf (fun q hq => visB_low hq _) fun a1 b1 c1 H1 ht f1 => ?_
  have h1':=h.frame f1 fun _ _ => id
  have hb1:=h1'.blk
  (repeat' (first | (simp only [wp,extractV,w0,reduceIte,Nat.reduceAdd,Nat.reduceLT,Nat.reduceLeDiff,Nat.reduceEqDiff,hb1,nil_ptr]) | (with_reducible ((first | apply xC | apply xG | apply xQ) <;> intro hb <;> try simp only [hb]))))
  have hbk:blkOk wk o (-1):=⟨by omega,ho,fun g => by omega,by omega,by omega⟩
  obtain ⟨r,er,hAns⟩:=block_spec (G:=G) hA.errs n ht pc wk o (-1)
  obtain ⟨a2,b2,c2,e2,ht2⟩:=Ans.yes hAns hc.ok ⟨hc.inOk,hbk⟩
  subst e2
  refine (AnsC.ret (c:=[]) er).q (Sees.nil _) (fun _ g => by cases g) fun r2 H2 e f2 => ?_
  subst e
  (repeat' (first | (simp only [wp,extractV,w0,reduceIte,Nat.reduceAdd,Nat.reduceLT,Nat.reduceLeDiff,Nat.reduceEqDiff]) | (with_reducible ((first | apply xC | apply xG | apply xQ) <;> intro hb <;> try simp only [hb]))))
  have n1:=f1.next
  have n2:=f2.next
  refine run_t (r:=.tuple []) (h1'.frame f2 fun _ _ => id) (fun q hl => by simp [visB,Heap.add_next,Heap.set_next,Heap.q_next,Heap.empty_next] at hl ⊢; omega) ((f2.floor.trans f1.floor).trans hf) (fun K hK hfK => change_run (n + 4) hK hfK ht2 (tab_bnd (hc.block hbk) ht2) (by rw [block_len]; exact h.pc.2)) fun H3 hC => ?_
  (repeat' (first | (simp only [wp,extractV,w0,reduceIte,Nat.reduceAdd,Nat.reduceLT,Nat.reduceLeDiff,Nat.reduceEqDiff]) | (with_reducible ((first | apply xC | apply xG | apply xQ) <;> intro hb <;> try simp only [hb]))))
  unfold doWait
  rw [if_neg h0,if_pos h1]
  obtain ⟨a3,b3,c3,d3,x3,y3,z3,u3,v3,w3,g3,pr3,hx3,hf3,f3⟩:=hC
  exact ⟨a3,b3,c3,d3,x3,y3,z3,u3,v3,w3,g3,pr3,hx3,fun q hq => (hf3 q hq).imp id fun g => by omega,⟨by have:=f3.next; omega,f3.floor.trans (f2.floor.trans f1.floor),fun q hq hne => (f3.old q (by omega) hne).trans ((f2.old q (by omega) id).trans (f1.old q hq id))⟩⟩
 ·have e1:(regAt s pc 2 == 4294967295) = false:=by simpa using h1
  have hle:regAt s pc 2 ≤ 1000000:=hto.resolve_right h1
  have htk:=hc.tk
  obtain ⟨r0,r1⟩:=hr2
  (repeat' (first | (simp only [wp,extractV,w0,reduceIte,Nat.reduceAdd,Nat.reduceLT,Nat.reduceLeDiff,Nat.reduceEqDiff,e0,e1]) | (with_reducible ((first | apply xC | apply xG | apply xQ) <;> intro hb <;> try simp only [hb]))))
  refine q_table (n + 5) h hf (fun q hq => visB_low hq _) fun a1 b1 c1 H1 ht f1 => ?_
  have h1':=h.frame f1 fun _ _ => id
  have hb1:=h1'.blk
  have ad:arithV .add (i64 tk) (i64 (regAt s pc 2)) = some (i64 (tk + regAt s pc 2)):=arith_add (by omega) (by omega)
  (repeat' (first | (simp only [wp,extractV,w0,reduceIte,Nat.reduceAdd,Nat.reduceLT,Nat.reduceLeDiff,Nat.reduceEqDiff,hb1,nil_ptr,conv_i64 (show -9223372036854775808 ≤ regAt s pc 2 by omega) (show regAt s pc 2 ≤ 9223372036854775807 by omega),ad]) | (with_reducible ((first | apply xC | apply xG | apply xQ) <;> intro hb <;> try simp only [hb]))))
  have hbk:blkOk wk o (tk + regAt s pc 2):=⟨by omega,ho,fun g => by omega,by omega,by omega⟩
  obtain ⟨r,er,hAns⟩:=block_spec (G:=G) hA.errs n ht pc wk o (tk + regAt s pc 2)
  obtain ⟨a2,b2,c2,e2,ht2⟩:=Ans.yes hAns hc.ok ⟨hc.inOk,hbk⟩
  subst e2
  refine (AnsC.ret (c:=[]) er).q (Sees.nil _) (fun _ g => by cases g) fun r2 H2 e f2 => ?_
  subst e
  (repeat' (first | (simp only [wp,extractV,w0,reduceIte,Nat.reduceAdd,Nat.reduceLT,Nat.reduceLeDiff,Nat.reduceEqDiff]) | (with_reducible ((first | apply xC | apply xG | apply xQ) <;> intro hb <;> try simp only [hb]))))
  have n1:=f1.next
  have n2:=f2.next
  refine run_t (r:=.tuple []) (h1'.frame f2 fun _ _ => id) (fun q hl => by simp [visB,Heap.add_next,Heap.set_next,Heap.q_next,Heap.empty_next] at hl ⊢; omega) ((f2.floor.trans f1.floor).trans hf) (fun K hK hfK => change_run (n + 4) hK hfK ht2 (tab_bnd (hc.block hbk) ht2) (by rw [block_len]; exact h.pc.2)) fun H3 hC => ?_
  (repeat' (first | (simp only [wp,extractV,w0,reduceIte,Nat.reduceAdd,Nat.reduceLT,Nat.reduceLeDiff,Nat.reduceEqDiff]) | (with_reducible ((first | apply xC | apply xG | apply xQ) <;> intro hb <;> try simp only [hb]))))
  unfold doWait
  rw [if_neg h0,if_neg h1]
  obtain ⟨a3,b3,c3,d3,x3,y3,z3,u3,v3,w3,g3,pr3,hx3,hf3,f3⟩:=hC
  exact ⟨a3,b3,c3,d3,x3,y3,z3,u3,v3,w3,g3,pr3,hx3,fun q hq => (hf3 q hq).imp id fun g => by omega,⟨by have:=f3.next; omega,f3.floor.trans (f2.floor.trans f1.floor),fun q hq hne => (f3.old q (by omega) hne).trans ((f2.old q (by omega) id).trans (f1.old q hq id))⟩⟩
theorem cl_comp {F F1:List Nat} {s2:St} {H1 H2:Heap} {rep2:V} {ft2:Int} (hf1:∀ n ∈ F1,n ∈ F ∨ H.next ≤ n) (f1:Frame H H1 (fun n => n ∈ F)) (h2:Cl H1 i p s2 pc tk rep2 ft2 F1 H2):Cl H i p s2 pc tk rep2 ft2 F H2:=by
 obtain ⟨a2,b2,c2,d2,x2,y2,z2,u2,v2,w2,g2,pr2,hx2,hf2,f2⟩:=h2
 have hn:=f1.next
 refine ⟨a2,b2,c2,d2,x2,y2,z2,u2,v2,w2,g2,pr2,hx2,fun n hn' => ?_,⟨Nat.le_trans f1.next f2.next,f2.floor.trans f1.floor,fun n hn' hne => ?_⟩⟩
 ·rcases hf2 n hn' with h | h
  ·exact hf1 n h
  ·exact .inr (by omega)
 ·refine (f2.old n (by omega) fun g => ?_).trans (f1.old n hn' hne)
  rcases hf1 n g with h | h
  ·exact hne h
  ·omega
end Sy
end Go.Fv.Tr
namespace Go.Fv.Tr
open Go Go.Fv Go.Fv.Pl Go.Proofs
variable {G:GV}
namespace Sy
variable {l m:List V} {s:St} {p:Pn} {x y z a b c d x' y' z' u v w g:V} {pr:List (List V)} {k:List V} {H H' K:Heap} {i:Nat} {pc tk ft:Int} {rep:V}
theorem StB.sems' {s:St} (h:StB s) {l:List Int} (hl:l.length = s.sems.length):StB { s with sems:=l }:=⟨h.wp,h.t,h.up,by show l.length * 8 ≤ room; rw [hl]; exact h.sems,h.ports,h.pages,h.msgs,h.data⟩
set_option maxRecDepth 20000 in
theorem sem_at (h:ClX H i p s pc tk rep ft a b c d x y z u v w g pr) {n:Int} (h0:0 ≤ n) (hn:n < s.sems.length):∃ lu bk,idxV 1 v (.int .i64 n) = some (.ptr lu n.toNat 0) ∧ H.blk lu = some bk ∧ bk.rows[n.toNat]? = some [i64 (s.sems[n.toNat]'(by omega))] ∧ n.toNat < bk.rows.length ∧ H.floor ≤ lu ∧ lu ≠ i ∧
  ∀ e:Int,Cl H i p { s with sems:=s.sems.set n.toNat e } pc tk rep ft (fp i x y z u v w g pr) (H.set lu ⟨bk.sz,bk.rows.set n.toNat [i64 e]⟩):=by
 obtain ⟨l,ms⟩:=h.ms
 have hlt:n.toNat < (s.sems.map intRow).length:=by rw [List.length_map]; omega
 obtain ⟨lu,bk,h1,h2,h3,h4,h5⟩:=ms.sems.idx (k:=.i64) hlt
 rw [Int.toNat_of_nonneg h0] at h2
 rw [List.getElem_map] at h4
 have hmem:lu ∈ lv [x,y,z,u,v,w,g] ++ lr pr:=List.mem_append_left _ (mem_lv.2 ⟨v,by simp,h1⟩)
 have hne:lu ≠ i:=fun e => h.no (e ▸ hmem)
 refine ⟨lu,bk,h2,h3,h4,(List.getElem?_eq_some_iff.1 h4).1,h5,hne,fun e => ?_⟩
 obtain ⟨d1,d2⟩:=nd_ne (A:=[x,y,z,u]) (B:=[w,g]) ms.nd h1
 have f:Frame H (H.set lu ⟨bk.sz,bk.rows.set n.toNat [i64 e]⟩) (fun m => m = lu):=Frame.set _ _ rfl
 refine ⟨a,b,c,d,x,y,z,u,v,w,g,pr,⟨by rw [Heap.set_blk,if_neg (Ne.symm hne)]; exact h.blk,h.lt,h.pn,⟨_,rfl,ms.ps.frame f (d1 _ (by simp)),ms.q.frame f (d1 _ (by simp)),ms.ts.frame f (d1 _ (by simp)),ms.up.frame f (d1 _ (by simp)),?_,ms.ports.frame f (d1 _ (by simp)),ms.pages.frame f (d1 _ (by simp)),ms.row.frame f d2,ms.nd⟩,h.no,h.pc,h.sb.sems' (by simp)⟩,fun m hm => .inl hm,f.mono fun m _ hm => by subst hm; exact List.mem_cons_of_mem _ hmem⟩
 have hz:=ms.sems.put (i:=n.toNat) h1 h3 [i64 e]
 show Own _ v 1 ((s.sems.set n.toNat e).map intRow)
 rw [List.map_set]
 exact hz
def doTake (p:Pn) (s:St) (pc tk:Int):St :=
 if regAt s pc 1 < (p.sems.length:Int) then
  if timeOk (regAt s pc 2) then (if 0 < s.sems.getD (regAt s pc 1).toNat 0 then setR { s with sems:=s.sems.set (regAt s pc 1).toNat (s.sems.getD (regAt s pc 1).toNat 0 - 1) } pc 1 0 else doWait s pc tk 3 (regAt s pc 1))
  else setR s pc 1 4294967295
 else setR s pc 1 4294967295
set_option maxRecDepth 20000 in
set_option maxHeartbeats 1000000 in
theorem take_run (hA:BErrs G) (n:Nat) (h:ClX H i p s pc tk rep ft a b c d x y z u v w g pr) (hf:H.floor = 0) (hc:Can s pc tk) (hl:s.sems.length = p.sems.length) (hs:∀ k ∈ s.sems,0 ≤ k ∧ k ≤ 255) :
  Run (callV (cfg G) (sem (cfg G) (n + 10)) 50 [.ptr i 0 0]) H fun r H' => r = .tuple [] ∧ Cl H i p (doTake p s pc tk) pc tk rep ft (fp i x y z u v w g pr) H':=by
 have hb:=h.blk
 have hr1:=hc.reg 1 (by decide)
 obtain ⟨lp,pn⟩:=h.pn
 have hlen:lenV d = some (i64 (p.sems.length:Int)):=by rw [pn.sems.len,List.length_map]
 have hbig:(p.sems.length:Int) ≤ 9223372036854775807:=by have:=pn.big.2.2.2; unfold big at this; omega
 rw [callV_inl rfl,ferry_sys_caller_take_eq]
 simp only [ferry_sys_caller_take]
 (repeat' (first | (simp only [wp,extractV,w0,reduceIte,Nat.reduceAdd,Nat.reduceLT,Nat.reduceLeDiff,Nat.reduceEqDiff,hb,nil_ptr,hlen]) | (with_reducible ((first | apply xC | apply xG | apply xQ) <;> intro hb <;> try simp only [hb]))))
 refine index_run (n + 7) h hf hr1 ⟨Int.natCast_nonneg _,hbig⟩ (fun h1 => ?_) fun h1 H1 hC => ?_
 ·have hin:0 ≤ regAt s pc 1 ∧ regAt s pc 1 < s.sems.length:=⟨hr1.1,by omega⟩
  (repeat' (first | (simp only [wp,extractV,w0,reduceIte,Nat.reduceAdd,Nat.reduceLT,Nat.reduceLeDiff,Nat.reduceEqDiff]) | (with_reducible ((first | apply xC | apply xG | apply xQ) <;> intro hb <;> try simp only [hb]))))
  refine timeout_run (n + 7) h hf (fun h2 => ?_) fun h2 H1 hC => ?_
  ·obtain ⟨lu,bk,g1,g2,g3,g4,g5,g6,g7⟩:=sem_at h hin.1 hin.2
   have hgd:s.sems.getD (regAt s pc 1).toNat 0 = s.sems[(regAt s pc 1).toNat]'(by omega):=by rw [List.getD_eq_getElem?_getD,List.getElem?_eq_getElem (by omega)]; rfl
   unfold doTake
   rw [if_pos h1,if_pos h2,hgd]
   have hk:=hs _ (List.getElem_mem (show (regAt s pc 1).toNat < s.sems.length by omega))
   generalize s.sems[(regAt s pc 1).toNat]'(by omega) = kk at *
   by_cases h3:0 < kk
   ·have e3:decide (0 < kk) = true:=by simpa using h3
    have ad:arithV .sub (i64 kk) (i64 1) = some (i64 (kk - 1)):=arith_sub (by omega) (by omega)
    rw [if_pos h3]
    (repeat' (first | (simp only [wp,extractV,w0,reduceIte,Nat.reduceAdd,Nat.reduceLT,Nat.reduceLeDiff,Nat.reduceEqDiff,hb,nil_ptr,g1,g2,g3,arith_gtr,e3,ad,g5]) | (with_reducible ((first | apply xC | apply xG | apply xQ) <;> intro hb <;> try simp only [hb]))))
    have g7':=g7 (kk - 1)
    generalize H.set lu ⟨bk.sz,bk.rows.set (regAt s pc 1).toNat [i64 (kk - 1)]⟩ = H1 at *
    obtain ⟨a1,b1,c1,d1,x1,y1,z1,u1,v1,w1,q1,pr1,hx1,hf1,f1⟩:=g7'
    refine (answer_run (n + 8) hx1 (f1.floor.trans hf) 0).mono fun r H4 ⟨_,hC4⟩ => ?_
    (repeat' (first | (simp only [wp,extractV,w0,reduceIte,Nat.reduceAdd,Nat.reduceLT,Nat.reduceLeDiff,Nat.reduceEqDiff]) | (with_reducible ((first | apply xC | apply xG | apply xQ) <;> intro hb <;> try simp only [hb]))))
    exact cl_comp hf1 f1 hC4
   ·have e3:decide (0 < kk) = false:=by simpa using h3
    rw [if_neg h3]
    (repeat' (first | (simp only [wp,extractV,w0,reduceIte,Nat.reduceAdd,Nat.reduceLT,Nat.reduceLeDiff,Nat.reduceEqDiff,hb,nil_ptr,g1,g2,g3,arith_gtr,e3]) | (with_reducible ((first | apply xC | apply xG | apply xQ) <;> intro hb <;> try simp only [hb]))))
    refine (wait_run hA n h hf hc (wk:=3) (by decide) hin.1 h2).mono fun r H' e => ?_
    (repeat' (first | (simp only [wp,extractV,w0,reduceIte,Nat.reduceAdd,Nat.reduceLT,Nat.reduceLeDiff,Nat.reduceEqDiff]) | (with_reducible ((first | apply xC | apply xG | apply xQ) <;> intro hb <;> try simp only [hb]))))
    exact e.2
  ·(repeat' (first | (simp only [wp,extractV,w0,reduceIte,Nat.reduceAdd,Nat.reduceLT,Nat.reduceLeDiff,Nat.reduceEqDiff]) | (with_reducible ((first | apply xC | apply xG | apply xQ) <;> intro hb <;> try simp only [hb]))))
   unfold doTake
   rw [if_pos h1,if_neg h2]
   exact hC
 ·(repeat' (first | (simp only [wp,extractV,w0,reduceIte,Nat.reduceAdd,Nat.reduceLT,Nat.reduceLeDiff,Nat.reduceEqDiff]) | (with_reducible ((first | apply xC | apply xG | apply xQ) <;> intro hb <;> try simp only [hb]))))
  unfold doTake
  rw [if_neg (by omega)]
  exact hC
def doSignal (p:Pn) (s:St) (pc:Int):St :=
 if regAt s pc 1 < (p.sems.length:Int) then
  (match wt s.t.ps 3 (regAt s pc 1) with
   | b :: _ => setR { s with t:=s.t.wake (best (prio s.t.ps) b (wt s.t.ps 3 (regAt s pc 1))) 0 } pc 1 0
   | [] => if s.sems.getD (regAt s pc 1).toNat 0 = 255 then setR s pc 1 4294967293 else setR { s with sems:=s.sems.set (regAt s pc 1).toNat (s.sems.getD (regAt s pc 1).toNat 0 + 1) } pc 1 0)
 else setR s pc 1 4294967295
theorem best_wt {t:Tab} {w o b:Int} {l:List Int} (h:wt t.ps w o = b :: l):best (prio t.ps) b (wt t.ps w o) ∈ wt t.ps w o:=by
 rcases best_mem (prio t.ps) (wt t.ps w o) b with g | g
 ·rw [g,h]
  exact List.mem_cons_self
 ·exact g
set_option maxRecDepth 20000 in
set_option maxHeartbeats 1000000 in
theorem signal_run (hA : BErrs G) (n : Nat) (h : ClX H i p s pc tk rep ft a b c d x y z u v w g pr) (hf : H.floor = 0) (hc : Can s pc tk) (hl : s.sems.length = p.sems.length) (hs : ∀ k ∈ s.sems, 0 ≤ k ∧ k ≤ 255) :
    Run (callV (cfg G) (sem (cfg G) (n + 10)) 49 [.ptr i 0 0]) H fun r H' => r = .tuple [] ∧ Cl H i p (doSignal p s pc) pc tk rep ft (fp i x y z u v w g pr) H':=by
  have hb:=h.blk
  have hr1:=hc.reg 1 (by decide)
  obtain ⟨lp,pn⟩:=h.pn
  have hlen:lenV d = some (i64 (p.sems.length:Int)):=by rw [pn.sems.len,List.length_map]
  have hbig:(p.sems.length:Int) ≤ 9223372036854775807:=by have:=pn.big.2.2.2; unfold big at this; omega
  rw [callV_inl rfl,ferry_sys_caller_signal_eq]
  simp only [ferry_sys_caller_signal]
  (repeat' (first | (simp only [wp,extractV,w0,reduceIte,Nat.reduceAdd,Nat.reduceLT,Nat.reduceLeDiff,Nat.reduceEqDiff,hb,nil_ptr,hlen]) | (with_reducible ((first | apply xC | apply xG | apply xQ) <;> intro hb <;> try simp only [hb]))))
  refine index_run (n + 7) h hf hr1 ⟨Int.natCast_nonneg _,hbig⟩ (fun h1 => ?_) fun h1 H1 hC => ?_
  · have hin : 0 ≤ regAt s pc 1 ∧ regAt s pc 1 < s.sems.length := ⟨hr1.1, by omega⟩
    (repeat' (first | (simp only [wp,extractV,w0,reduceIte,Nat.reduceAdd,Nat.reduceLT,Nat.reduceLeDiff,Nat.reduceEqDiff]) | (with_reducible ((first | apply xC | apply xG | apply xQ) <;> intro hb <;> try simp only [hb]))))
    refine (table_run (n + 6) h rfl (fun _ _ => rfl) (by rw [hf]; exact Nat.zero_le _)).mono fun r H1 ⟨⟨ta,tb,tc,er,ht⟩,f1⟩ => ?_
    subst er
    have n1:=f1.next
    have fl1:H1.floor = 0:=f1.floor.trans hf
    have hx1:=h.frame f1 fun _ _ => id
    have hb1:=hx1.blk
    have eb:=best_spec (G:=G) hA.errs (n + 2) ht 3 (regAt s pc 1)
    unfold doSignal
    rw [if_pos h1]
    unfold bestV at eb
    rw [if_pos hc.ok] at eb
    cases hw:wt s.t.ps 3 (regAt s pc 1) with
    | nil =>
      rw [hw] at eb
      obtain ⟨lu,bk,g1,g2,g3,g4,g5,g6,g7⟩:=sem_at hx1 hin.1 hin.2
      have hgd:s.sems.getD (regAt s pc 1).toNat 0 = s.sems[(regAt s pc 1).toNat]'(by omega):=by rw [List.getD_eq_getElem?_getD,List.getElem?_eq_getElem (by omega)]; rfl
      rw [hgd]
      have hk:=hs _ (List.getElem_mem (show (regAt s pc 1).toNat < s.sems.length by omega))
      generalize s.sems[(regAt s pc 1).toNat]'(by omega) = kk at *
      by_cases h3:kk = 255
      · have e3:(kk == 255) = true:=by simpa using h3
        simp only [if_pos h3]
        (repeat' (first | (simp only [wp,extractV,w0,reduceIte,Nat.reduceAdd,Nat.reduceLT,Nat.reduceLeDiff,Nat.reduceEqDiff,eb,eq_err,hb1,nil_ptr,g1,g2,g3,e3]) | (with_reducible ((first | apply xC | apply xG | apply xQ) <;> intro hb <;> try simp only [hb]))))
        refine (answer_run (n + 8) hx1 fl1 _).mono fun r H4 ⟨_,hC4⟩ => ?_
        (repeat' (first | (simp only [wp,extractV,w0,reduceIte,Nat.reduceAdd,Nat.reduceLT,Nat.reduceLeDiff,Nat.reduceEqDiff]) | (with_reducible ((first | apply xC | apply xG | apply xQ) <;> intro hb <;> try simp only [hb]))))
        exact cl_comp (F1:=fp i x y z u v w g pr) (fun q hq => .inl hq) (f1.mono fun _ _ g => g.elim) hC4
      · have e3:(kk == 255) = false:=by simpa using h3
        have ad:arithV .add (i64 kk) (i64 1) = some (i64 (kk + 1)):=arith_add (by omega) (by omega)
        simp only [if_neg h3]
        (repeat' (first | (simp only [wp,extractV,w0,reduceIte,Nat.reduceAdd,Nat.reduceLT,Nat.reduceLeDiff,Nat.reduceEqDiff,eb,eq_err,hb1,nil_ptr,g1,g2,g3,e3,ad,g5]) | (with_reducible ((first | apply xC | apply xG | apply xQ) <;> intro hb <;> try simp only [hb]))))
        have g7':=g7 (kk + 1)
        generalize H1.set lu ⟨bk.sz,bk.rows.set (regAt s pc 1).toNat [i64 (kk + 1)]⟩ = H2 at *
        obtain ⟨a1,b1,c1,d1,x1,y1,z1,u1,v1,w1,q1,pr1,hx2,hf2,f2⟩:=g7'
        refine (answer_run (n + 8) hx2 (f2.floor.trans fl1) 0).mono fun r H4 ⟨_,hC4⟩ => ?_
        (repeat' (first | (simp only [wp,extractV,w0,reduceIte,Nat.reduceAdd,Nat.reduceLT,Nat.reduceLeDiff,Nat.reduceEqDiff]) | (with_reducible ((first | apply xC | apply xG | apply xQ) <;> intro hb <;> try simp only [hb]))))
        exact cl_comp (F1:=fp i x y z u v w g pr) (fun q hq => .inl hq) (f1.mono fun _ _ g => g.elim) (cl_comp hf2 f2 hC4)
    | cons b0 l0 =>
      have hmem:=best_wt hw
      rw [hw] at eb
      have hst:=(wt_wl (t:=s.t) 3 (regAt s pc 1)).st _ hmem
      rw [hw] at hst
      dsimp only at eb ⊢
      generalize best (prio s.t.ps) b0 (b0 :: l0) = bb at *
      obtain ⟨q0,hq0,hq1⟩:=Option.map_eq_some_iff.1 hst
      have hok:TabOk (s.t.wake bb 0):=hc.ok.wake hq0 hq1 0
      (repeat' (first | (simp only [wp,extractV,w0,reduceIte,Nat.reduceAdd,Nat.reduceLT,Nat.reduceLeDiff,Nat.reduceEqDiff,eb,eq_nili]) | (with_reducible ((first | apply xC | apply xG | apply xQ) <;> intro hb <;> try simp only [hb]))))
      refine (table_run (n + 6) hx1 rfl (fun _ _ => rfl) (by omega)).mono fun r H2 ⟨⟨ua,ub,uc,er,ht1⟩,f2⟩ => ?_
      subst er
      obtain ⟨rw',ew,hans⟩:=wakeR_spec (G:=G) hA.errs (n + 1) ht1 bb 0
      obtain ⟨va,vb,vc,e2,ht2⟩:=Ans.yes hans hc.ok ⟨q0,hq0,by simp [hq1]⟩
      subst e2
      (repeat' (first | (simp only [wp,extractV,w0,reduceIte,Nat.reduceAdd,Nat.reduceLT,Nat.reduceLeDiff,Nat.reduceEqDiff,ew]) | (with_reducible ((first | apply xC | apply xG | apply xQ) <;> intro hb <;> try simp only [hb]))))
      refine (change_run (n + 5) (hx1.frame f2 fun _ _ => id) (f2.floor.trans fl1) ht2 (tab_bnd hok ht2) (by rw [show (s.t.wake bb 0).ps.length = s.t.ps.length from setP_len _ _ _]; exact h.pc.2)).mono fun r H3 ⟨_,hC3⟩ => ?_
      obtain ⟨a3,b3,c3,d3,x3,y3,z3,u3,v3,w3,q3,pr3,hx3,hf3,f3⟩:=hC3
      refine (answer_run (n + 8) hx3 (f3.floor.trans (f2.floor.trans fl1)) 0).mono fun r H4 ⟨_,hC4⟩ => ?_
      (repeat' (first | (simp only [wp,extractV,w0,reduceIte,Nat.reduceAdd,Nat.reduceLT,Nat.reduceLeDiff,Nat.reduceEqDiff]) | (with_reducible ((first | apply xC | apply xG | apply xQ) <;> intro hb <;> try simp only [hb]))))
      have n2:=f2.next
      have n3:=f3.next
      exact cl_comp (F1:=fp i x y z u v w g pr) (fun q hq => .inl hq) (f1.mono fun _ _ g => g.elim) (cl_comp (F1:=fp i x y z u v w g pr) (fun q hq => .inl hq) (f2.mono fun _ _ g => g.elim) (cl_comp hf3 f3 hC4))
  · (repeat' (first | (simp only [wp,extractV,w0,reduceIte,Nat.reduceAdd,Nat.reduceLT,Nat.reduceLeDiff,Nat.reduceEqDiff]) | (with_reducible ((first | apply xC | apply xG | apply xQ) <;> intro hb <;> try simp only [hb]))))
    unfold doSignal
    rw [if_neg (by omega)]
    exact hC
end Sy
end Go.Fv.Tr
