/-
  What the functions of the layer 8 answer: Set, Drop, Fire, Sort. By an AI agent; no person has read it.
-/
import Derived.Test.YtekncgjkocgioaaGreatDoorFvP24
set_option linter.unusedVariables false
set_option linter.unusedSimpArgs false
set_option linter.unusedSectionVars false
/-! What the functions of the layer 8 answer: Set, Drop, Fire, Sort. -/
namespace Go.Fv.Tr
open Go Go.Fv Go.Fv.Pl Go.Proofs
variable {G:GV}
def Says (C:Cfg) (call:CV) (f:FuncId) (bs:List V) (P:V → Prop):Prop:=∀ ok,Run (call f bs) Heap.empty fun v H' => ∃ r,thawV ok H' v = some r ∧ P r
theorem Run.ans {C:Cfg} {call:FuncId → List V → M V} {f:FuncId} {args bs:List V} {P:V → Prop} {H:Heap} {Q:V → Heap → Prop} (hk:C.kind f = .pure) (ha:args.mapM (thawV true H) = some bs)
  (h:Says C call f bs P) (q:∀ r,P r → Q r H):Run (callV C call f args) H Q:=by
 obtain ⟨v,H',e,r,t,p⟩:=h (args.all V.closedV)
 exact ⟨r,H,callV_thaw hk ha ⟨v,H',e,t⟩,q r p⟩
theorem Says.eq {C:Cfg} {call:FuncId → List V → M V} {f:FuncId} {bs:List V} {P:V → Prop} (hk:C.kind f = .pure) (hb:bs.all V.closedV = true) (h:Says C call f bs P):∃ r,callV C call f bs = M.ret r ∧ P r :=
 callV_pureE hk hb (h true)
theorem _root_.Go.Fv.Own.thawV {H:Heap} {x:V} {sz:Nat} {rows:List (List V)} (h:Own H x sz rows) (hf:flatRows rows = true) (ok:Bool):∃ y,Fv.thawV ok H x = some y ∧ thaw2 ok H x = some y ∧ Sls y sz rows:=by
 obtain ⟨y,e,s⟩:=h.thaw hf ok
 refine ⟨y,?_,?_,s⟩
 ·rcases h with ⟨rfl | rfl,_⟩ | ⟨l,n,c,ex,b,rfl,_⟩ <;> exact e
 ·rcases h with ⟨rfl | rfl,_⟩ | ⟨l,n,c,ex,b,rfl,_⟩ <;> exact e
structure TErrs (G:GV):Prop where
 state:G 2 = some [errV 2]
 arg:G 0 = some [errV 0]
 range:G 6 = some [errV 6]
structure SErrs (G:GV):Prop where
 state:G 2 = some [errV 2]
 arg:G 0 = some [errV 0]
theorem TErrs.s (h:TErrs G):SErrs G:=⟨h.state,h.arg⟩
theorem Errs.s (h:Errs G):SErrs G:=⟨h.state,h.arg⟩
def wo (ts:List Tm) (p:Int):List Tm:=ts.filter fun a => !decide (a.proc = p)
def setT (ts:List Tm) (p d:Int):List Tm:=isort (wo ts p ++ [⟨p,d⟩])
end Go.Fv.Tr
namespace Go.Fv.Tr
open Go Go.Fv Go.Fv.Pl Go.Proofs
variable {G:GV}
theorem Frame.loc {H:Heap} (b b':Blk):Frame H ((H.add b).set H.next b') (fun _ => False) :=
 ⟨Nat.le_succ _,rfl,fun l hl _ => by rw [Heap.set_blk,if_neg (by omega),Heap.add_old hl]⟩
end Go.Fv.Tr
namespace Go.Fv.Tr
open Go Go.Fv Go.Proofs
set_option maxRecDepth 20000
end Go.Fv.Tr
namespace Go.Fv.Tr
open Go Go.Fv Go.Fv.Pl Go.Proofs
variable {G:GV}
def waits (w o:Int) (p:Pr):Prop:=p.state = 2 ∧ p.wait = w ∧ p.obj = o
instance (w o:Int) (p:Pr):Decidable (waits w o p):=inferInstanceAs (Decidable (_ ∧ _ ∧ _))
theorem Frame.pr {H:Heap} {p:Pr} (z:List V):Frame H ((H.add ⟨21,[z]⟩).set H.next ⟨21,[prRow p]⟩) (fun _ => False):=Frame.loc _ _
end Go.Fv.Tr
namespace Go.Fv
open Go
theorem Own.put {H:Heap} {x:V} {sz l i:Nat} {b:Blk} {rows:List (List V)} (h:Own H x sz rows) (hl:loc x = some l) (hb:H.blk l = some b) (r:List V):Own (H.set l ⟨b.sz,b.rows.set i r⟩) x sz (rows.set i r):=by
 rcases h with ⟨rfl | rfl,_⟩ | ⟨l',n,c,ex,b',rfl,h1,h2,h3,h4,h5,rfl⟩
 ·cases hl
 ·cases hl
 ·cases hl
  rw [hb] at h1; cases h1
  exact .inr ⟨l,n,c,ex,_,rfl,by rw [Heap.set_blk,if_pos rfl],h2,h3,h4,by rw [List.length_set]; exact h5,by rw [List.take_set]⟩
theorem Heap.set_set {H:Heap} (l:Nat) (b b':Blk):(H.set l b).set l b' = H.set l b':=by
 unfold Heap.set
 congr 1
 funext x
 simp only
 split <;> rfl
end Go.Fv
namespace Go.Fv.Tr
open Go Go.Fv Go.Proofs
set_option maxRecDepth 20000
noncomputable def ferry_ready_Table_wake (G:GV) (call:CV) (x0:V) (x1:V) (x2:V):M R :=
 (newV x1).bind fun aA =>
 ((M.ret x0).bind fun aB =>
 (M.lift (nilCheckV aB)).bind fun aC =>
 (M.lift (padd 0 aC)).bind fun aD =>
 (load1 aD).bind fun aE =>
 (load1 aA).bind fun aF =>
 (M.lift (idxV 21 aE aF)).bind fun aG =>
 (M.ret aG).bind fun aH =>
 (M.ret aH).bind fun aI =>
 (M.ret aH).bind fun aJ =>
 (M.ret aH).bind fun aK =>
 (M.lift (nilCheckV aI)).bind fun aL =>
 (M.lift (padd 17 aL)).bind fun aM =>
 (storeN 1 aM (V.int .i64 1)).bind fun _ =>
 (M.lift (nilCheckV aJ)).bind fun aN =>
 (M.lift (padd 19 aN)).bind fun aO =>
 (storeN 1 aO (V.int .i64 0)).bind fun _ =>
 (M.lift (nilCheckV aK)).bind fun aP =>
 (M.lift (padd 20 aP)).bind fun aQ =>
 (storeN 1 aQ (V.int .i64 0)).bind fun _ =>
 (M.ret aH).bind fun aR =>
 (M.ret x2).bind fun aS =>
 (M.lift (nilCheckV aR)).bind fun aT =>
 (M.lift (padd 0 aT)).bind fun aU =>
 (M.lift (aidxV 16 1 aU (V.int .i64 1))).bind fun aV =>
 (storeN 1 aV aS).bind fun _ =>
 (getN.bind fun aW =>
 (M.ret x0).bind fun aX =>
 getN.bind fun aY =>
 (M.ret x0).bind fun aZ =>
 getN.bind fun bA =>
 (M.lift (nilCheckV aZ)).bind fun bB =>
 getN.bind fun bC =>
 (M.lift (padd 1 bB)).bind fun bD =>
 getN.bind fun bE =>
 (load1 bD).bind fun bF =>
 getN.bind fun bG =>
 (load1 aA).bind fun bH =>
 getN.bind fun bI =>
 (sliceV 1 1 [(V.int .i64 0)] [(0,bH)]).bind fun bJ =>
 getN.bind fun bK =>
 (trun (visB aW [(bI,bK,true),(bG,bI,true),(bE,bG,true),(bC,bE,true),(bA,bC,true),(aY,bA,true),(aW,aY,false)]) (appV 1 8 bF bJ)).bind fun bL =>
 (M.lift (nilCheckV aX)).bind fun bM =>
 (M.lift (padd 1 bM)).bind fun bN =>
 (storeN 1 bN bL).bind fun _ =>
 (M.ret x0).bind fun bO =>
 (M.ret x0).bind fun bP =>
 (M.lift (nilCheckV bP)).bind fun bQ =>
 (M.lift (padd 2 bQ)).bind fun bR =>
 (load1 bR).bind fun bS =>
 (M.ret (V.fn 207 [aA])).bind fun bT =>
 (callV (cfg G) call 206 [bS,bT]).bind fun bU =>
 (M.lift (nilCheckV bO)).bind fun bV =>
 (M.lift (padd 2 bV)).bind fun bW =>
 (storeN 1 bW bU).bind fun _ =>
 M.ret (Ex.ret,[V.tuple []])))
theorem ferry_ready_Table_wake_eq (G:GV) (n:Nat) (x0:V) (x1:V) (x2:V):sem (cfg G) (n + 1) 140 [x0,x1,x2] = outV (ferry_ready_Table_wake G (sem (cfg G) n) x0 x1 x2) :=
 (fnV_at (C:=cfg G) (n:=n) (f:=140) (fn:=Tryz.f140) (c:=Tryz.f140.body.getD .skip) (by kernel_rfl) (by kernel_rfl) (by kernel_rfl) [x0,x1,x2]).trans (by kernel_rfl)
end Go.Fv.Tr
namespace Go.Fv.Tr
open Go Go.Fv Go.Fv.Pl Go.Proofs
variable {G:GV}
theorem len16 {α:Type} {l:List α} (h:l.length = 16):∃ a0 a1 a2 a3 a4 a5 a6 a7 a8 a9 a10 a11 a12 a13 a14 a15,l = [a0,a1,a2,a3,a4,a5,a6,a7,a8,a9,a10,a11,a12,a13,a14,a15]:=by
 match l,h with
 | [a0,a1,a2,a3,a4,a5,a6,a7,a8,a9,a10,a11,a12,a13,a14,a15],_ => exact ⟨_,_,_,_,_,_,_,_,_,_,_,_,_,_,_,_,rfl⟩
theorem wake_wp {t:Tab} (h:∀ p ∈ t.ps,Wp p) (n r1:Int):∀ p ∈ (t.wake n r1).ps,Wp p:=by
 intro p hp
 obtain ⟨i,hi⟩:=List.getElem?_of_mem hp
 simp only [Tab.wake,setP,List.getElem?_modify] at hi
 obtain ⟨q,hq,e⟩:=Option.map_eq_some_iff.1 hi
 have:=h q (List.mem_of_getElem? hq)
 split at e
 ·subst e; unfold Wp wakeP; simp [show q.regs.length = 16 from this]
 ·subst e; exact this
theorem setP_map {ps:List Pr} {f:Pr → Pr} {p:Nat} (hp:p < ps.length):(setP ps (p:Int) f).map prRow = (ps.map prRow).set p (prRow (f ps[p])):=by
 unfold setP
 rw [Int.toNat_natCast]
 refine List.ext_getElem? fun i => ?_
 rw [List.getElem?_map,List.getElem?_modify,List.getElem?_set,List.getElem?_map,List.length_map]
 by_cases e:p = i
 ·subst e
  simp [hp]
 ·simp [e]
set_option maxRecDepth 20000 in
theorem wake_spec (n:Nat) {H:Heap} {l s:Nat} {x y z:V} {t:Tab} (hb:H.blk l = some ⟨s,[[x,y,z]]⟩) (h:OwnTab H x y z t) (hl:H.floor ≤ l) (hln:l < H.next) (hlx:loc x ≠ some l) (hly:loc y ≠ some l) (hlz:loc z ≠ some l)
  (hq:t.q.length ≤ 8) (hts:t.ts.length ≤ 8) (hwp:∀ p ∈ t.ps,Wp p) {p:Nat} (hp:p < t.ps.length) (r1:Int) :
  Run (callV (cfg G) (sem (cfg G) (n + 4)) 140 [.ptr l 0 0,.int .i64 (p:Int),.int .u32 r1]) H fun _ H' => ∃ y' z',H'.blk l = some ⟨s,[[x,y',z']]⟩ ∧ OwnTab H' x y' z' (t.wake p r1) ∧
   Frame H H' (fun k => k = l ∨ loc x = some k ∨ loc y = some k ∨ loc z = some k) ∧ (∀ k,loc y' = some k → loc y = some k ∨ H.next ≤ k) ∧ ∀ k,loc z' = some k → loc z = some k:=by
 rw [callV_inl rfl,ferry_ready_Table_wake_eq]
 have n1:¬ l = H.next:=by omega
 obtain ⟨lx,b,ex,hix,hbx,hrx,hfx⟩:=h.p.idx (k:=.i64) (i:=p) (by simpa using hp)
 have hlxn:=h.p.lt ex
 have n2:¬ lx = H.next:=by omega
 have n3:¬ l = lx:=fun e => hlx (e ▸ ex)
 have n4:¬ H.next = lx:=fun e => n2 e.symm
 have hpl:p < b.rows.length:=(List.getElem?_eq_some_iff.1 hrx).1
 have hgw:=hwp _ (List.getElem_mem hp)
 simp only [List.getElem_map] at hrx
 obtain ⟨a0,a1,a2,a3,a4,a5,a6,a7,a8,a9,a10,a11,a12,a13,a14,a15,hregs⟩:=len16 hgw
 have hrow:prRow t.ps[p] = [.int .u32 a0,.int .u32 a1,.int .u32 a2,.int .u32 a3,.int .u32 a4,.int .u32 a5,.int .u32 a6,.int .u32 a7,.int .u32 a8,.int .u32 a9,.int .u32 a10,.int .u32 a11,.int .u32 a12,.int .u32 a13,.int .u32 a14,.int .u32 a15,
   .int .u32 t.ps[p].pc,.int .i64 t.ps[p].state,.int .i64 t.ps[p].prio,.int .i64 t.ps[p].wait,.int .i64 t.ps[p].obj]:=by unfold prRow; rw [hregs]; rfl
 have hrow':prRow (wakeP r1 t.ps[p]) = [.int .u32 a0,.int .u32 r1,.int .u32 a2,.int .u32 a3,.int .u32 a4,.int .u32 a5,.int .u32 a6,.int .u32 a7,.int .u32 a8,.int .u32 a9,.int .u32 a10,.int .u32 a11,.int .u32 a12,.int .u32 a13,.int .u32 a14,.int .u32 a15,
   .int .u32 t.ps[p].pc,.int .i64 1,.int .i64 t.ps[p].prio,.int .i64 0,.int .i64 0]:=by unfold prRow wakeP; rw [hregs]; rfl
 rw [hrow] at hrx
 have hgs:∀ r:List V,(b.rows.set p r)[p]? = some r:=fun r => List.getElem?_set_self hpl
 have hai:aidxV 16 1 (.ptr lx p 0) (.int .i64 1) = some (.ptr lx p 1):=by simp [aidxV,padd]
 simp only [ferry_ready_Table_wake]
 (repeat' (first | (simp only [wp,extractV,w0,reduceIte,Nat.reduceAdd,Nat.reduceLT,Nat.reduceLeDiff,Nat.reduceEqDiff,hb,n1,n2,n3,n4,hix,nilCheckV,hbx,hrx,hfx,hgs,Heap.set_set,List.set_set,hai]) | (with_reducible ((first | apply xC | apply xG | apply xQ) <;> intro hb <;> try simp only [hb]))))
 rw [← hrow']
 refine (Run.slice (n:=0)).2 ⟨[intRow (p:Int)],rfl,?_⟩
 have hx0:=(h.p.frame (Frame.add ⟨1,[[.int .i64 (p:Int)]]⟩ (fun _ => False)) fun _ _ g => g).put (i:=p) ex ((Heap.add_old hlxn).trans hbx) (prRow (wakeP r1 t.ps[p]))
 rw [← setP_map hp (f:=wakeP r1)] at hx0
 have fr1:Frame H ((H.add ⟨1,[[.int .i64 (p:Int)]]⟩).set lx ⟨b.sz,b.rows.set p (prRow (wakeP r1 t.ps[p]))⟩) (fun k => loc x = some k) :=
  (Frame.add ⟨1,[[.int .i64 (p:Int)]]⟩ (fun _ => False)).trans (Frame.set _ lx (p:=fun k => loc x = some k) ex) (fun _ _ g => g.elim) (fun _ _ g => g)
 have hc1:((H.add ⟨1,[[.int .i64 (p:Int)]]⟩).set lx ⟨b.sz,b.rows.set p (prRow (wakeP r1 t.ps[p]))⟩).blk H.next = some ⟨1,[[.int .i64 (p:Int)]]⟩:=by rw [Heap.set_blk,if_neg n4]; exact Heap.add_new _
 have hn1:((H.add ⟨1,[[.int .i64 (p:Int)]]⟩).set lx ⟨b.sz,b.rows.set p (prRow (wakeP r1 t.ps[p]))⟩).next = H.next + 1:=rfl
 generalize (H.add ⟨1,[[.int .i64 (p:Int)]]⟩).set lx ⟨b.sz,b.rows.set p (prRow (wakeP r1 t.ps[p]))⟩ = H1 at hx0 fr1 hc1 hn1 ⊢
 have fr2:=fr1.trans (Frame.add ⟨1,[intRow (p:Int)]⟩ (fun _ => False)) (r:=fun k => loc x = some k) (fun _ _ g => g) (fun _ _ g => g.elim)
 have hHn:H.floor ≤ H.next:=by omega
 have hyn:∀ k,loc y = some k → k < H.next:=fun k hk => h.q.lt hk
 have hzn:∀ k,loc z = some k → k < H.next:=fun k hk => h.s.lt hk
 refine (Run.tapp (items:=[intRow (p:Int)]) (by rw [fr2.floor,Heap.add_next,hn1]; omega) (h.q.frame fr2 fun k h1 h2 => h.pq k h2 h1) (fun k hk => ?_) ?_ ?_).mono fun y' H3 ⟨oy,f3,l3⟩ => ?_
 ·have:=hyn k hk
  have h2:k < H.next + 1:=by omega
  simp [visB,h2]
 ·simp [itemsV,visB,Heap.add_next,Heap.add_blk,hn1]
 ·simp only [List.length_map,List.length_cons,List.length_nil]; unfold room; omega
 have fr3:=fr2.trans f3 (r:=fun k => loc x = some k ∨ loc y = some k) (fun _ _ g => .inl g) (fun _ _ g => .inr g)
 have hb3:H3.blk l = some ⟨s,[[x,y,z]]⟩:=(fr3.old l hln fun g => g.elim hlx hly).trans hb
 have hfl3:H3.floor ≤ l:=by rw [fr3.floor]; exact hl
 have hnx3:=fr3.next
 have hnx3':=f3.next
 rw [Heap.add_next,hn1] at hnx3'
 have hc3:H3.blk H.next = some ⟨1,[[.int .i64 (p:Int)]]⟩:=(f3.old H.next (by rw [Heap.add_next,hn1]; omega) fun g => by have:=hyn _ g; omega).trans ((Heap.add_old (by omega)).trans hc1)
 have hx3:Own H3 x 21 ((setP t.ps (p:Int) (wakeP r1)).map prRow):=(hx0.frame (Frame.add ⟨1,[intRow (p:Int)]⟩ (fun _ => False)) fun _ _ g => g).frame f3 fun k h1 h2 => h.pq k h1 h2
 have hz3:Own H3 z 2 (t.ts.map tmRow):=h.s.frame fr3 fun k h1 h2 => h2.elim (fun g => h.ps k g h1) (fun g => h.qs k g h1)
 have ly':∀ k,loc y' = some k → loc y = some k ∨ H.next < k:=fun k hk => (l3 k hk).imp id fun g => by rw [Heap.add_next,hn1] at g; omega
 (repeat' (first | (simp only [wp,extractV,w0,reduceIte,Nat.reduceAdd,Nat.reduceLT,Nat.reduceLeDiff,Nat.reduceEqDiff,hb3,hfl3,oy.cells]) | (with_reducible ((first | apply xC | apply xG | apply xQ) <;> intro hb <;> try simp only [hb]))))
 have f4:Frame H3 (H3.set l ⟨s,[[x,y',z]]⟩) (fun k => k = l):=Frame.set _ _ rfl
 have hF:∀ m,Asks G (n + 1 + m) (.fn 207 [.ptr H.next 0 0]) H.next ⟨1,[[.int .i64 (p:Int)]]⟩ (fun a => V.agg (tmRow a)) (fun a => decide (a.proc = (p:Int))):=fun m => by
  rw [Nat.add_right_comm]; exact wake_asks (n + m) H.next p
 refine (deleteF_tm (n + 1) hF (hz3.frame f4 fun k h1 h2 => hlz (h2 ▸ h1)) ((f4.old H.next (by omega) (fun g:H.next = l => n1 g.symm)).trans hc3) (fun g => by have:=hzn _ g; omega) (Nat.lt_of_lt_of_le (by omega:H.next < H3.next) f4.next) (by unfold big; omega)).mono fun z' H5 ⟨oz,f5,l5⟩ => ?_
 have hb5:H5.blk l = some ⟨s,[[x,y',z]]⟩:=(f5.old l (by show l < H3.next; omega) fun g => hlz g).trans (by rw [Heap.set_blk,if_pos rfl])
 have hfl5:H5.floor ≤ l:=by rw [f5.floor]; exact hfl3
 (repeat' (first | (simp only [wp,extractV,w0,reduceIte,Nat.reduceAdd,Nat.reduceLT,Nat.reduceLeDiff,Nat.reduceEqDiff,hb5,hfl5,oz.cells]) | (with_reducible ((first | apply xC | apply xG | apply xQ) <;> intro hb <;> try simp only [hb]))))
 have f6:Frame H5 (H5.set l ⟨s,[[x,y',z']]⟩) (fun k => k = l):=Frame.set _ _ rfl
 have hyl:loc y' ≠ some l:=fun g => by
  rcases ly' l g with g | g
  ·exact hly g
  ·omega
 have hzl:∀ k,loc z' = some k → k ≠ l:=fun k hk e => hlz (e ▸ l5 k hk)
 refine ⟨y',z',rfl,⟨?_,?_,?_,fun k h1 h2 => ?_,fun k h1 h2 => h.ps k h1 (l5 k h2),fun k h1 h2 => ?_⟩,?_,fun k hk => (ly' k hk).imp id fun g => by omega,l5⟩
 ·exact ((hx3.frame f4 fun k h1 h2 => hlx (h2 ▸ h1)).frame f5 fun k h1 h2 => h.ps k h1 h2).frame f6 fun k h1 h2 => hlx (h2 ▸ h1)
 ·have:=((oy.frame f4 fun k h1 h2 => hyl (h2 ▸ h1)).frame f5 fun k h1 h2 => by
   rcases ly' k h1 with g | g
   ·exact h.qs k g h2
   ·have:=hzn k h2; omega).frame f6 fun k h1 h2 => hyl (h2 ▸ h1)
  simp only [Tab.wake,List.map_append,List.map_cons,List.map_nil]
  exact this
 ·have:=oz.frame f6 fun k h1 h2 => hzl k h1 h2
  have ef:(t.ts.filter fun a => !decide (a.proc = (p:Int))) = t.ts.filter (·.proc ≠ (p:Int)):=List.filter_congr fun a _ => by simp
  rw [ef] at this
  exact this
 ·rcases ly' k h2 with g | g
  ·exact h.pq k h1 g
  ·have:=h.p.lt h1; omega
 ·have g2:=l5 k h2
  rcases ly' k h1 with g | g
  ·exact h.qs k g g2
  ·have:=hzn k g2; omega
 ·have a1:=fr3.trans f4 (r:=fun k => k = l ∨ loc x = some k ∨ loc y = some k ∨ loc z = some k) (fun _ _ g => .inr (g.imp id .inl)) (fun _ _ g => .inl g)
  exact (a1.trans f5 (r:=fun k => k = l ∨ loc x = some k ∨ loc y = some k ∨ loc z = some k) (fun _ _ g => g) (fun _ _ g => .inr (.inr (.inr g)))).trans f6 (fun _ _ g => g) (fun _ _ g => .inl g)
end Go.Fv.Tr
namespace Go.Fv.Tr
open Go Go.Fv Go.Fv.Pl Go.Proofs
variable {G:GV}
theorem thaw2_tab {H:Heap} {x y z:V} {t:Tab} (h:OwnTab H x y z t) (hw:∀ p ∈ t.ps,Wp p) (hb:TabOk t) (ok:Bool):∃ a b c,thaw2 ok H (.agg [x,y,z]) = some (.agg [a,b,c]) ∧ IsTab a b c t:=by
 obtain ⟨a,a1,a2⟩:=h.p.thaw (flat_pr _) ok
 obtain ⟨b,b1,b2⟩:=h.q.thaw (flat_ir _) ok
 obtain ⟨c,c1,c2⟩:=h.s.thaw (flat_tm _) ok
 have e1:[x,y,z].mapM (thaw ok H) = some [a,b,c]:=by simp [a1,b1,c1]
 exact ⟨a,b,c,by simp only [thaw2,e1]; rfl,a2,b2,c2,hw,big_of hb⟩
structure InT (H:Heap) (lt:Nat) (u:Tab):Prop where
 fl:H.floor = 0
 b1:H.blk 1 = some ⟨3,[[.nils,.nils,.nils]]⟩
 l2:2 ≤ lt
 ln:lt < H.next
 tab:∃ x y z,H.blk lt = some ⟨3,[[x,y,z]]⟩ ∧ OwnTab H x y z u ∧ ∀ k,(loc x = some k ∨ loc y = some k ∨ loc z = some k) → 2 ≤ k ∧ k ≠ lt
 wp:∀ p ∈ u.ps,Wp p
theorem InT.start {H0 H:Heap} {x y z:V} {t:Tab} (h:OwnTab H x y z t) (f:Frame H0 H (fun _ => False)) (h0:H0.floor = 0) (hn:2 ≤ H0.next) (b1:H0.blk 1 = some ⟨3,[[.nils,.nils,.nils]]⟩)
  (hl:∀ k,(loc x = some k ∨ loc y = some k ∨ loc z = some k) → H0.next ≤ k) (hw:∀ p ∈ t.ps,Wp p):InT ((H.add ⟨3,[[.nils,.nils,.nils]]⟩).set H.next ⟨3,[[x,y,z]]⟩) H.next t:=by
 have fA:Frame H ((H.add ⟨3,[[.nils,.nils,.nils]]⟩).set H.next ⟨3,[[x,y,z]]⟩) (fun _ => False):=Frame.loc _ _
 have hn2:=f.next
 exact ⟨(fA.floor.trans f.floor).trans h0,(fA.old 1 (by omega) id).trans ((f.old 1 (by omega) id).trans b1),by omega,Nat.lt_succ_self _,⟨x,y,z,by rw [Heap.set_blk,if_pos rfl],h.frame fA fun _ _ g => g,
  fun k hk => ⟨by have:=hl k hk; omega,by have:=h.lt hk; omega⟩⟩,hw⟩
theorem nodup_take {α:Type} {l:List α} (h:l.Nodup) (i:Nat):(l.take i).Nodup:=h.sublist (List.take_sublist i l)
theorem nodup_get {α:Type} {l:List α} (h:l.Nodup) {i:Nat} (hi:i < l.length):l[i] ∉ l.take i:=fun hm => by
 have:=nodup_take h (i + 1)
 rw [take_snoc hi,List.nodup_append] at this
 exact this.2.2 _ hm _ (List.mem_singleton.2 rfl) rfl
structure Wl (t:Tab) (l:List Int):Prop where
 nd:l.Nodup
 st:∀ n ∈ l,(at? t.ps n).map Pr.state = some 2
theorem Wl.ok {t:Tab} {l:List Int} (h:Wl t l) (ht:TabOk t) (r:Pr → Int) (i:Nat):TabOk (t.wakes r (l.take i)):=ht.wakes (nodup_take h.nd i) fun n hn => h.st n (List.mem_of_mem_take hn)
theorem Wl.at {t:Tab} {l:List Int} (h:Wl t l) (r:Pr → Int) {i:Nat} (hi:i < l.length):∃ p,at? t.ps l[i] = some p ∧ p.state = 2 ∧ at? (t.wakes r (l.take i)).ps l[i] = some p:=by
 obtain ⟨p,hp,hs⟩:=Option.map_eq_some_iff.1 (h.st _ (List.getElem_mem hi))
 refine ⟨p,hp,hs,?_⟩
 rw [wakes_at (fun n hn => ?_) (nodup_get h.nd hi)]
 ·exact hp
 ·obtain ⟨q,hq,_⟩:=Option.map_eq_some_iff.1 (h.st n (List.mem_of_mem_take hn))
  exact (at?_lt hq).1
theorem Wl.len {t:Tab} {l:List Int} (h:Wl t l) (ht:TabOk t):l.length ≤ 8:=by
 refine nodup_lenI h.nd fun n hn => ?_
 obtain ⟨q,hq,_⟩:=Option.map_eq_some_iff.1 (h.st n hn)
 have:=at?_lt hq
 have:=ht.few
 omega
end Go.Fv.Tr
namespace Go.Fv.Tr
open Go Go.Fv Go.Proofs
set_option maxRecDepth 20000
end Go.Fv.Tr
namespace Go.Fv.Tr
open Go Go.Fv Go.Fv.Pl Go.Proofs
variable {G:GV}
end Go.Fv.Tr
namespace Go.Fv.Tr
open Go Go.Fv Go.Fv.Pl Go.Proofs
variable {G:GV}
structure InW (H:Heap) (x y z:V) (lt:Nat) (a b c:V) (u:Tab):Prop where
 fl:H.floor = 0
 b0:H.blk 0 = some ⟨3,[[x,y,z]]⟩
 b1:H.blk 1 = some ⟨3,[[.nils,.nils,.nils]]⟩
 l2:2 ≤ lt
 ln:lt < H.next
 bl:H.blk lt = some ⟨3,[[a,b,c]]⟩
 o:OwnTab H a b c u
 k:∀ k,(loc a = some k ∨ loc b = some k ∨ loc c = some k) → 2 ≤ k ∧ k ≠ lt
end Go.Fv.Tr
namespace Go.Fv.Tr
open Go Go.Fv Go.Fv.Pl Go.Proofs
variable {G:GV}
def allRight (ts:List Tm):Prop:=∀ t ∈ ts,right 8 t
instance (ts:List Tm):Decidable (allRight ts):=inferInstanceAs (Decidable (∀ t ∈ ts,right 8 t))
end Go.Fv.Tr
namespace Go.Fv.Tr
open Go Go.Fv Go.Fv.Pl Go.Proofs
variable {G:GV}
end Go.Fv.Tr
namespace Go.Fv.Tr
open Go Go.Fv Go.Fv.Pl Go.Proofs
variable {G:GV}
namespace Sy
structure Po where
 msgs:List ByteArray
 age:Int
structure Pa where
 r:Int
 d:Bool
 data:List Int
structure St where
 id:Int
 fr:Int
 ep:Int
 t:Tab
 up:List Bool
 sems:List Int
 ports:List Po
 pages:List Pa
structure Gp where
 r:Int
 init:ByteArray
structure Cp where
 entry:Int
 prio:Int
 auto:Bool
structure Tp where
 kind:Int
 size:Int
 depth:Int
 fresh:Int
structure Pn where
 id:Int
 mob:Bool
 pages:List Gp
 procs:List Cp
 ports:List Tp
 ev:Int
 sems:List Int
def boR (b:Bool):List V:=[.bool b]
def stR (s:ByteArray):List V:=[.str s]
def paR (p:Pa):List V:=i64 p.r :: .bool p.d :: p.data.map fun n => V.int .u8 n
def gpR (p:Gp):List V:=[i64 p.r,.str p.init]
def cpR (p:Cp):List V:=[i64 p.entry,i64 p.prio,.bool p.auto]
def tpR (p:Tp):List V:=[i64 p.kind,i64 p.size,i64 p.depth,i64 p.fresh]
def PoS (row:List V) (p:Po):Prop:=∃ m,row = [m,i64 p.age] ∧ Sls m 1 (p.msgs.map stR) ∧ p.msgs.length ≤ big
structure StS (l:List V) (s:St) (x y z a b c d:V) (pr:List (List V)):Prop where
 eq:l = [i64 s.id,i64 s.fr,i64 s.ep,x,y,z,a,b,c,d]
 t:IsTab x y z s.t
 up:Sls a 1 (s.up.map boR)
 sems:Sls b 1 (s.sems.map intRow)
 ports:Sls c 2 pr
 pages:Sls d 66 (s.pages.map paR)
 plen:pr.length = s.ports.length
 prow:∀ (j:Nat) (hj:j < pr.length),PoS pr[j] (s.ports[j]'(by rw [← plen]; exact hj))
 big:s.up.length ≤ big ∧ s.sems.length ≤ big ∧ s.ports.length ≤ big ∧ s.pages.length ≤ big
 data:∀ p ∈ s.pages,p.data.length = 64
structure PnS (l:List V) (p:Pn) (a b c d:V):Prop where
 eq:l = [i64 p.id,.bool p.mob,a,b,c,i64 p.ev,d]
 pages:Sls a 2 (p.pages.map gpR)
 procs:Sls b 3 (p.procs.map cpR)
 ports:Sls c 4 (p.ports.map tpR)
 sems:Sls d 1 (p.sems.map intRow)
 big:p.pages.length ≤ big ∧ p.procs.length ≤ big ∧ p.ports.length ≤ big ∧ p.sems.length ≤ big
variable {l m:List V} {s:St} {p:Pn} {x y z a b c d e f g h:V} {pr:List (List V)}
theorem PnS.closedV (hp:PnS l p a b c d):(V.agg l).closedV = true:=by
 rw [hp.eq]
 show ([i64 p.id,.bool p.mob,a,b,c,i64 p.ev,d]:List V).all V.closed = true
 simp only [List.all_cons,List.all_nil,hp.pages.closed,hp.procs.closed,hp.ports.closed,hp.sems.closed]
 rfl
theorem StS.closedV (hs:StS l s x y z a b c d pr):(V.agg l).closedV = true:=by
 rw [hs.eq]
 show ([i64 s.id,i64 s.fr,i64 s.ep,x,y,z,a,b,c,d]:List V).all V.closed = true
 simp only [List.all_cons,List.all_nil,hs.t.p.closed,hs.t.q.closed,hs.t.s.closed,hs.up.closed,hs.sems.closed,hs.ports.closed,hs.pages.closed]
 rfl
def outT (q:Tp):Prop:=q.kind = 2 ∨ q.kind = 4
def queT (q:Tp):Prop:=q.kind = 3 ∨ q.kind = 4
instance (q:Tp):Decidable (outT q):=inferInstanceAs (Decidable (_ ∨ _))
instance (q:Tp):Decidable (queT q):=inferInstanceAs (Decidable (_ ∨ _))
def TpOk (q:Tp):Prop:=(1 ≤ q.kind ∧ q.kind ≤ 4) ∧ (1 ≤ q.size ∧ q.size ≤ 32) ∧ (1 ≤ q.depth ∧ q.depth ≤ if queT q then 8 else 1) ∧ (0 ≤ q.fresh ∧ q.fresh ≤ if q.kind = 1 then 255 else 0)
instance (q:Tp):Decidable (TpOk q):=inferInstanceAs (Decidable (_ ∧ _ ∧ _ ∧ _))
def mostT (q:Tp):Int:=if outT q then 2 else 2 + q.depth * (1 + q.size)
def boundP (p:Pn):Int:=58 + 76 * p.procs.length + 68 * p.pages.length + p.ev + p.sems.length + (p.ports.map fun q => 3 + mostT q).sum
def GpOk (q:Gp):Prop:=(0 ≤ q.r ∧ q.r ≤ 7) ∧ q.init.size ≤ 64
instance (q:Gp):Decidable (GpOk q):=inferInstanceAs (Decidable (_ ∧ _))
def CpOk (k:Nat) (q:Cp):Prop:=(0 ≤ q.entry ∧ q.entry < 64 * k ∧ q.entry.tmod 4 = 0) ∧ 0 ≤ q.prio ∧ q.prio ≤ 255
instance (k:Nat) (q:Cp):Decidable (CpOk k q):=inferInstanceAs (Decidable (_ ∧ _ ∧ _))
def CtOk (n:Int):Prop:=0 ≤ n ∧ n ≤ 255
instance (n:Int):Decidable (CtOk n):=inferInstanceAs (Decidable (_ ∧ _))
structure PnOk (p:Pn):Prop where
 id:0 ≤ p.id ∧ p.id ≤ 2147483647
 pages:(1 ≤ p.pages.length ∧ p.pages.length ≤ 32) ∧ ∀ q ∈ p.pages,GpOk q
 procs:(1 ≤ p.procs.length ∧ p.procs.length ≤ 8) ∧ ∀ q ∈ p.procs,CpOk p.pages.length q
 ports:p.ports.length ≤ 8 ∧ ∀ q ∈ p.ports,TpOk q
 ev:0 ≤ p.ev ∧ p.ev ≤ 8
 sems:p.sems.length ≤ 8 ∧ ∀ n ∈ p.sems,CtOk n
 bound:boundP p ≤ 4096
theorem PnOk_iff (p:Pn):PnOk p ↔ (0 ≤ p.id ∧ p.id ≤ 2147483647) ∧ ((1 ≤ p.pages.length ∧ p.pages.length ≤ 32) ∧ ∀ q ∈ p.pages,GpOk q) ∧ ((1 ≤ p.procs.length ∧ p.procs.length ≤ 8) ∧ ∀ q ∈ p.procs,CpOk p.pages.length q) ∧
  (p.ports.length ≤ 8 ∧ ∀ q ∈ p.ports,TpOk q) ∧ (0 ≤ p.ev ∧ p.ev ≤ 8) ∧ (p.sems.length ≤ 8 ∧ ∀ n ∈ p.sems,CtOk n) ∧ boundP p ≤ 4096 :=
 ⟨fun ⟨a,b,c,d,e,f,g⟩ => ⟨a,b,c,d,e,f,g⟩,fun ⟨a,b,c,d,e,f,g⟩ => ⟨a,b,c,d,e,f,g⟩⟩
instance (p:Pn):Decidable (PnOk p):=decidable_of_iff _ (PnOk_iff p).symm
def ObjOk (p:Pn) (w o:Int):Prop :=
 if w = 2 then 0 ≤ o ∧ o < p.ev else if w = 3 then 0 ≤ o ∧ o < p.sems.length else if w = 4 then 0 ≤ o ∧ ∃ q,p.ports[o.toNat]? = some q ∧ queT q else o = 0
instance (o:Option Tp):Decidable (∃ q,o = some q ∧ queT q):=match o with
 | none => isFalse fun ⟨_,h,_⟩ => by cases h
 | some q => if h:queT q then isTrue ⟨q,rfl,h⟩ else isFalse fun ⟨_,e,g⟩ => by cases e; exact h g
instance (p:Pn) (w o:Int):Decidable (ObjOk p w o):=by unfold ObjOk; infer_instance
def nth? {α:Type} (l:List α) (n:Int):Option α:=if 0 ≤ n then l[n.toNat]? else none
def upOk (p:Pn) (s:St) (w o:Int):Prop:=w = 2 → o < p.ev → nth? s.up o ≠ some true
def semOk (p:Pn) (s:St) (w o:Int):Prop:=w = 3 → o < p.sems.length → ∀ n,nth? s.sems o = some n → n = 0
def pqOk (q:Tp) (r:Po):Prop:=(q.kind = 3 → r.msgs.length = 0) ∧ (q.kind = 4 → (r.msgs.length:Int) = q.depth)
def porOk (p:Pn) (s:St) (w o:Int):Prop:=w = 4 → ∀ q,nth? p.ports o = some q → ∀ r,nth? s.ports o = some r → pqOk q r
instance (q:Tp) (r:Po):Decidable (pqOk q r):=inferInstanceAs (Decidable (_ ∧ _))
instance (p:Pn) (s:St) (w o:Int):Decidable (upOk p s w o):=by unfold upOk; infer_instance
instance {α:Type} (o:Option α) (P:α → Prop) [DecidablePred P]:Decidable (∀ n,o = some n → P n):=match o with
 | none => isTrue fun _ h => by cases h
 | some n => if h:P n then isTrue fun _ e => by cases e; exact h else isFalse fun g => h (g n rfl)
instance (p:Pn) (s:St) (w o:Int):Decidable (semOk p s w o):=by unfold semOk; infer_instance
instance (p:Pn) (s:St) (w o:Int):Decidable (porOk p s w o):=by unfold porOk; infer_instance
def Both (R:Tp → Po → Prop) (p:Pn) (s:St):Prop:=∀ x ∈ p.ports.zip s.ports,R x.1 x.2
instance (R:Tp → Po → Prop) [∀ a b,Decidable (R a b)] (p:Pn) (s:St):Decidable (Both R p s):=by unfold Both; infer_instance
def holdOk (q:Tp) (r:Po):Prop:=(r.msgs.length:Int) ≤ q.depth ∧ ∀ m ∈ r.msgs,(m.size:Int) ≤ q.size
def ageOk (q:Tp) (r:Po):Prop:=(0 ≤ r.age ∧ r.age ≤ 255) ∧ (r.age = 0 ∨ q.kind = 1 ∧ 0 < r.msgs.length)
def emptyOk (q:Tp) (r:Po):Prop:=outT q → r.msgs.length = 0
instance (q:Tp) (r:Po):Decidable (holdOk q r):=inferInstanceAs (Decidable (_ ∧ _))
instance (q:Tp) (r:Po):Decidable (ageOk q r):=inferInstanceAs (Decidable (_ ∧ _))
instance (q:Tp) (r:Po):Decidable (emptyOk q r):=inferInstanceAs (Decidable (_ → _))
def TimedOk (t:Tab):Prop:=(∀ a ∈ t.ts,∀ q,at? t.ps a.proc = some q → q.state = 2) ∧ ∀ i,i < t.ps.length → ∀ q,t.ps[i]? = some q → q.wait = 1 → timed t.ts (i:Nat)
instance (t:Tab):Decidable (TimedOk t):=inferInstanceAs (Decidable (_ ∧ ∀ i,i < _ → _))
def Rule (p:Pn) (s:St):Nat → Prop
 | 1 => s.id = p.id
 | 2 => (0 ≤ s.fr ∧ s.fr ≤ 2147483647) ∧ (0 ≤ s.ep ∧ s.ep ≤ 2147483647)
 | 3 => s.t.ps.length = p.procs.length ∧ s.ports.length = p.ports.length ∧ s.pages.length = p.pages.length ∧ (s.up.length:Int) = p.ev ∧ s.sems.length = p.sems.length
 | 4 => ∀ q ∈ s.t.ps,NumOk q
 | 5 => ∀ q ∈ s.t.ps,(q.wait ≠ 0 ↔ q.state = 2)
 | 6 => ∀ q ∈ s.t.ps,ObjOk p q.wait q.obj
 | 7 => QOk s.t.ps s.t.q
 | 8 => TsOk s.t.ps.length s.t.ts
 | 9 => TimedOk s.t
 | 10 => ∀ n ∈ s.sems,CtOk n
 | 11 => Both holdOk p s
 | 12 => Both ageOk p s
 | 13 => ∀ x ∈ p.pages.zip s.pages,x.1.r = x.2.r
 | 14 => ∀ q ∈ s.t.ps,upOk p s q.wait q.obj
 | 15 => ∀ q ∈ s.t.ps,semOk p s q.wait q.obj
 | 16 => ∀ q ∈ s.t.ps,porOk p s q.wait q.obj
 | 17 => Both emptyOk p s
 | _ => True
instance (p:Pn) (s:St) (n:Nat):Decidable (Rule p s n):=by
 unfold Rule
 split <;> infer_instance
end Sy
end Go.Fv.Tr
