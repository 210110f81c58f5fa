/-
  What the functions of the layer 9 answer: Waiters, Best, Equal. By an AI agent; no person has read it.
-/
import Derived.Test.YtekncgjkocgioaaGreatDoorFvP27
set_option linter.unusedVariables false
set_option linter.unusedSimpArgs false
set_option linter.unusedSectionVars false
/-! What the functions of the layer 9 answer: Waiters, Best, Equal. -/
namespace Go.Fv.Tr
open Go Go.Fv Go.Fv.Pl Go.Proofs
variable {G:GV}
def waits (w o:Int) (p:Pr):Prop:=p.state = 2 ∧ p.wait = w ∧ p.obj = o
instance (w o:Int) (p:Pr):Decidable (waits w o p):=inferInstanceAs (Decidable (_ ∧ _ ∧ _))
def wtN (ps:List Pr) (w o:Int):Nat → List Int
 | 0 => []
 | i + 1 => wtN ps w o i ++ if (ps[i]?.map fun p => decide (waits w o p)) = some true then [(i:Int)] else []
def wt (ps:List Pr) (w o:Int):List Int:=wtN ps w o ps.length
theorem wtN_len (ps : List Pr) (w o : Int) : ∀ i, (wtN ps w o i).length ≤ i
  | 0 => Nat.le_refl _
  | i + 1 => by
    have:=wtN_len ps w o i
    rw [wtN,List.length_append]
    split <;> simp <;> omega
theorem mem_wtN {ps : List Pr} {w o n : Int} : ∀ {i : Nat}, n ∈ wtN ps w o i ↔ ∃ j : Nat, j < i ∧ n = j ∧ ∃ p, ps[j]? = some p ∧ waits w o p
  | 0 => by simp [wtN]
  | i + 1 => by
    rw [wtN,List.mem_append,mem_wtN]
    constructor
    · rintro (⟨j, h1, h2, h3⟩ | h)
      · exact ⟨j,by omega,h2,h3⟩
      · split at h
        · rename_i hc
          rw [List.mem_singleton] at h
          obtain ⟨p,hp,hw⟩:=Option.map_eq_some_iff.1 hc
          exact ⟨i,Nat.lt_succ_self i,h,p,hp,of_decide_eq_true hw⟩
        · cases h
    · rintro ⟨j, h1, h2, p, hp, hw⟩
      rcases Nat.lt_succ_iff_lt_or_eq.1 h1 with h | rfl
      · exact .inl ⟨j,h,h2,p,hp,hw⟩
      · right
        rw [if_pos (by rw [hp]; simp [hw])]
        exact List.mem_singleton.2 h2
theorem mem_wt {ps:List Pr} {w o n:Int}:n ∈ wt ps w o ↔ ∃ p,at? ps n = some p ∧ waits w o p:=by
 unfold wt
 rw [mem_wtN]
 constructor
 ·rintro ⟨j,_,rfl,p,hp,hw⟩
  exact ⟨p,by rw [at?_nat]; exact hp,hw⟩
 ·rintro ⟨p,hp,hw⟩
  have h1:=at?_lt hp
  obtain ⟨h2,h3⟩:=at?_some.1 hp
  exact ⟨n.toNat,by omega,by omega,p,h3,hw⟩
theorem wtN_lt {ps:List Pr} {w o n:Int} {i:Nat} (h:n ∈ wtN ps w o i):n < i:=by
 obtain ⟨j,h1,rfl,_⟩:=mem_wtN.1 h
 omega
theorem wtN_nodup (ps : List Pr) (w o : Int) : ∀ i, (wtN ps w o i).Nodup
  | 0 => by simp [wtN]
  | i + 1 => by
    rw [wtN,List.nodup_append]
    refine ⟨wtN_nodup ps w o i,by split <;> simp,fun a ha b hb e => ?_⟩
    have:=wtN_lt ha
    split at hb
    · rw [List.mem_singleton] at hb; omega
    · cases hb
theorem wt_nodup (ps:List Pr) (w o:Int):(wt ps w o).Nodup:=wtN_nodup ps w o _
theorem wtN_snoc {ps:List Pr} {w o:Int} {i:Nat} (h:i < ps.length):wtN ps w o (i + 1) = wtN ps w o i ++ if waits w o ps[i] then [(i:Int)] else []:=by
 rw [wtN,List.getElem?_eq_getElem h]
 simp
theorem Frame.pr {H:Heap} {p:Pr} (z:List V):Frame H ((H.add ⟨21,[z]⟩).set H.next ⟨21,[prRow p]⟩) (fun _ => False):=Frame.loc _ _
theorem waiters_spec (n:Nat) {x y z:V} {t:Tab} (h:IsTab x y z t) (hr:t.ps.length * 8 ≤ room) (w o:Int):Says (cfg G) (sem (cfg G) (n + 1)) 139 [.agg [x,y,z],.int .i64 w,.int .i64 o] fun r => Sls r 1 ((wt t.ps w o).map intRow):=by
 intro ok
 rw [ferry_ready_Waiters_eq]
 simp only [ferry_ready_Waiters]
 (repeat' (first | (simp only [wp,extractV,w0,reduceIte,Nat.reduceAdd,Nat.reduceLT,Nat.reduceLeDiff,Nat.reduceEqDiff,h.p.len,List.length_map]) | (with_reducible ((first | apply xC | apply xG | apply xQ) <;> intro hb <;> try simp only [hb]))))
 refine Run.loop (N:=t.ps.length) (fun i s H => ∃ a,s = [a,.int .i64 (i:Nat)] ∧ H.floor = 0 ∧ Own H a 1 ((wtN t.ps w o i).map intRow)) ⟨_,rfl,rfl,Own.nils _ _⟩ ?_
 rintro i s H hi ⟨a,rfl,hf,ha⟩
 by_cases hlt:i < t.ps.length
 ·have h2:=h.p.idx (k:=.i64) (i:=i) (by simpa using hlt)
  simp only [List.getElem_map] at h2
  have hw:=h.wp _ (List.getElem_mem hlt)
  have fr:=Frame.loc (H:=H) ⟨21,[[.int .u32 0,.int .u32 0,.int .u32 0,.int .u32 0,.int .u32 0,.int .u32 0,.int .u32 0,.int .u32 0,.int .u32 0,.int .u32 0,.int .u32 0,.int .u32 0,.int .u32 0,.int .u32 0,.int .u32 0,.int .u32 0,.int .u32 0,.int .i64 0,.int .i64 0,.int .i64 0,.int .i64 0]]⟩ ⟨21,[prRow t.ps[i]]⟩
  have hs:=wtN_snoc (w:=w) (o:=o) hlt
  have no:¬ waits w o t.ps[i] → Own ((H.add ⟨21,[[.int .u32 0,.int .u32 0,.int .u32 0,.int .u32 0,.int .u32 0,.int .u32 0,.int .u32 0,.int .u32 0,.int .u32 0,.int .u32 0,.int .u32 0,.int .u32 0,.int .u32 0,.int .u32 0,.int .u32 0,.int .u32 0,.int .u32 0,.int .i64 0,.int .i64 0,.int .i64 0,.int .i64 0]]⟩).set H.next ⟨21,[prRow t.ps[i]]⟩) a 1 ((wtN t.ps w o (i + 1)).map intRow):=fun hn => by
   rw [hs,if_neg hn,List.append_nil]; exact ha.frame fr fun _ _ h => h
  simp only [ferry_ready_Waiters_l1]
  (repeat' (first | (simp only [wp,extractV,w0,reduceIte,Nat.reduceAdd,Nat.reduceLT,Nat.reduceLeDiff,Nat.reduceEqDiff,ltT hlt,h2,hf,pr_len hw,pr_take hw,pr_state hw,pr_wait hw,pr_obj hw,addN hlt h.big.1]) | (with_reducible ((first | apply xC | apply xG | apply xQ) <;> intro hb <;> try simp only [hb]))))
  ·have hw':waits w o t.ps[i]:=by unfold waits; simp_all
   rw [if_pos hw'] at hs
   refine (Run.slice (n:=0)).2 ⟨[intRow (i:Int)],rfl,?_⟩
   have fr2:=fr.trans (Frame.add ⟨1,[intRow (i:Int)]⟩ (fun _ => False)) (r:=fun _ => False) (fun _ _ h => h) (fun _ _ h => h)
   have hlen:=wtN_len t.ps w o i
   refine (Run.app (items:=[intRow (i:Int)]) (by rw [fr2.floor,hf]; exact Nat.zero_le _) (ha.frame fr2 fun _ _ h => h) (by simp [itemsV,Heap.add_next,Heap.add_blk]) (by simp only [List.length_map,List.length_cons,List.length_nil]; omega)).mono fun x' H3 ⟨o3,f3,l3⟩ => ?_
   (repeat' (first | (simp only [wp,extractV,w0,reduceIte,Nat.reduceAdd,Nat.reduceLT,Nat.reduceLeDiff,Nat.reduceEqDiff,addN hlt h.big.1]) | (with_reducible ((first | apply xC | apply xG | apply xQ) <;> intro hb <;> try simp only [hb]))))
   exact ⟨hlt,_,rfl,by rw [f3.floor,fr2.floor,hf],by rw [hs,List.map_append]; exact o3⟩
  all_goals exact ⟨hlt,_,rfl,no (by unfold waits; simp_all)⟩
 ·simp only [ferry_ready_Waiters_l1]
  have e:i = t.ps.length:=by omega
  rw [e] at ha
  (repeat' (first | (simp only [wp,extractV,w0,reduceIte,Nat.reduceAdd,Nat.reduceLT,Nat.reduceLeDiff,Nat.reduceEqDiff,ltF hlt]) | (with_reducible ((first | apply xC | apply xG | apply xQ) <;> intro hb <;> try simp only [hb]))))
  obtain ⟨w,hw,_,hs⟩:=ha.thawV (flat_ir _) ok
  exact ⟨w,hw,hs⟩
end Go.Fv.Tr
namespace Go.Fv
open Go
theorem Own.put {H:Heap} {x:V} {sz l i:Nat} {b:Blk} {rows:List (List V)} (h:Own H x sz rows) (hl:loc x = some l) (hb:H.blk l = some b) (r:List V):Own (H.set l ⟨b.sz,b.rows.set i r⟩) x sz (rows.set i r):=by
 rcases h with ⟨rfl | rfl,_⟩ | ⟨l',n,c,ex,b',rfl,h1,h2,h3,h4,h5,rfl⟩
 ·cases hl
 ·cases hl
 ·cases hl
  rw [hb] at h1; cases h1
  exact .inr ⟨l,n,c,ex,_,rfl,by rw [Heap.set_blk,if_pos rfl],h2,h3,h4,by rw [List.length_set]; exact h5,by rw [List.take_set]⟩
theorem Heap.set_set {H:Heap} (l:Nat) (b b':Blk):(H.set l b).set l b' = H.set l b':=by
 unfold Heap.set
 congr 1
 funext x
 simp only
 split <;> rfl
end Go.Fv
namespace Go.Fv.Tr
open Go Go.Fv Go.Proofs
set_option maxRecDepth 20000
noncomputable def ferry_ready_Table_wake (G:GV) (call:CV) (x0:V) (x1:V) (x2:V):M R :=
 (newV x1).bind fun aA =>
 ((M.ret x0).bind fun aB =>
 (M.lift (nilCheckV aB)).bind fun aC =>
 (M.lift (padd 0 aC)).bind fun aD =>
 (load1 aD).bind fun aE =>
 (load1 aA).bind fun aF =>
 (M.lift (idxV 21 aE aF)).bind fun aG =>
 (M.ret aG).bind fun aH =>
 (M.ret aH).bind fun aI =>
 (M.ret aH).bind fun aJ =>
 (M.ret aH).bind fun aK =>
 (M.lift (nilCheckV aI)).bind fun aL =>
 (M.lift (padd 17 aL)).bind fun aM =>
 (storeN 1 aM (V.int .i64 1)).bind fun _ =>
 (M.lift (nilCheckV aJ)).bind fun aN =>
 (M.lift (padd 19 aN)).bind fun aO =>
 (storeN 1 aO (V.int .i64 0)).bind fun _ =>
 (M.lift (nilCheckV aK)).bind fun aP =>
 (M.lift (padd 20 aP)).bind fun aQ =>
 (storeN 1 aQ (V.int .i64 0)).bind fun _ =>
 (M.ret aH).bind fun aR =>
 (M.ret x2).bind fun aS =>
 (M.lift (nilCheckV aR)).bind fun aT =>
 (M.lift (padd 0 aT)).bind fun aU =>
 (M.lift (aidxV 16 1 aU (V.int .i64 1))).bind fun aV =>
 (storeN 1 aV aS).bind fun _ =>
 (getN.bind fun aW =>
 (M.ret x0).bind fun aX =>
 getN.bind fun aY =>
 (M.ret x0).bind fun aZ =>
 getN.bind fun bA =>
 (M.lift (nilCheckV aZ)).bind fun bB =>
 getN.bind fun bC =>
 (M.lift (padd 1 bB)).bind fun bD =>
 getN.bind fun bE =>
 (load1 bD).bind fun bF =>
 getN.bind fun bG =>
 (load1 aA).bind fun bH =>
 getN.bind fun bI =>
 (sliceV 1 1 [(V.int .i64 0)] [(0,bH)]).bind fun bJ =>
 getN.bind fun bK =>
 (trun (visB aW [(bI,bK,true),(bG,bI,true),(bE,bG,true),(bC,bE,true),(bA,bC,true),(aY,bA,true),(aW,aY,false)]) (appV 1 8 bF bJ)).bind fun bL =>
 (M.lift (nilCheckV aX)).bind fun bM =>
 (M.lift (padd 1 bM)).bind fun bN =>
 (storeN 1 bN bL).bind fun _ =>
 (M.ret x0).bind fun bO =>
 (M.ret x0).bind fun bP =>
 (M.lift (nilCheckV bP)).bind fun bQ =>
 (M.lift (padd 2 bQ)).bind fun bR =>
 (load1 bR).bind fun bS =>
 (M.ret (V.fn 207 [aA])).bind fun bT =>
 (callV (cfg G) call 206 [bS,bT]).bind fun bU =>
 (M.lift (nilCheckV bO)).bind fun bV =>
 (M.lift (padd 2 bV)).bind fun bW =>
 (storeN 1 bW bU).bind fun _ =>
 M.ret (Ex.ret,[V.tuple []])))
theorem ferry_ready_Table_wake_eq (G:GV) (n:Nat) (x0:V) (x1:V) (x2:V):sem (cfg G) (n + 1) 140 [x0,x1,x2] = outV (ferry_ready_Table_wake G (sem (cfg G) n) x0 x1 x2) :=
 (fnV_at (C:=cfg G) (n:=n) (f:=140) (fn:=Tryz.f140) (c:=Tryz.f140.body.getD .skip) (by kernel_rfl) (by kernel_rfl) (by kernel_rfl) [x0,x1,x2]).trans (by kernel_rfl)
end Go.Fv.Tr
namespace Go.Fv.Tr
open Go Go.Fv Go.Fv.Pl Go.Proofs
variable {G:GV}
theorem len16 {α:Type} {l:List α} (h:l.length = 16):∃ a0 a1 a2 a3 a4 a5 a6 a7 a8 a9 a10 a11 a12 a13 a14 a15,l = [a0,a1,a2,a3,a4,a5,a6,a7,a8,a9,a10,a11,a12,a13,a14,a15]:=by
 match l,h with
 | [a0,a1,a2,a3,a4,a5,a6,a7,a8,a9,a10,a11,a12,a13,a14,a15],_ => exact ⟨_,_,_,_,_,_,_,_,_,_,_,_,_,_,_,_,rfl⟩
theorem wake_wp {t:Tab} (h:∀ p ∈ t.ps,Wp p) (n r1:Int):∀ p ∈ (t.wake n r1).ps,Wp p:=by
 intro p hp
 obtain ⟨i,hi⟩:=List.getElem?_of_mem hp
 simp only [Tab.wake,setP,List.getElem?_modify] at hi
 obtain ⟨q,hq,e⟩:=Option.map_eq_some_iff.1 hi
 have:=h q (List.mem_of_getElem? hq)
 split at e
 ·subst e; unfold Wp wakeP; simp [show q.regs.length = 16 from this]
 ·subst e; exact this
theorem setP_map {ps:List Pr} {f:Pr → Pr} {p:Nat} (hp:p < ps.length):(setP ps (p:Int) f).map prRow = (ps.map prRow).set p (prRow (f ps[p])):=by
 unfold setP
 rw [Int.toNat_natCast]
 refine List.ext_getElem? fun i => ?_
 rw [List.getElem?_map,List.getElem?_modify,List.getElem?_set,List.getElem?_map,List.length_map]
 by_cases e:p = i
 ·subst e
  simp [hp]
 ·simp [e]
set_option maxRecDepth 20000 in
theorem wake_spec (n:Nat) {H:Heap} {l s:Nat} {x y z:V} {t:Tab} (hb:H.blk l = some ⟨s,[[x,y,z]]⟩) (h:OwnTab H x y z t) (hl:H.floor ≤ l) (hln:l < H.next) (hlx:loc x ≠ some l) (hly:loc y ≠ some l) (hlz:loc z ≠ some l)
  (hq:t.q.length ≤ 8) (hts:t.ts.length ≤ 8) (hwp:∀ p ∈ t.ps,Wp p) {p:Nat} (hp:p < t.ps.length) (r1:Int) :
  Run (callV (cfg G) (sem (cfg G) (n + 4)) 140 [.ptr l 0 0,.int .i64 (p:Int),.int .u32 r1]) H fun _ H' => ∃ y' z',H'.blk l = some ⟨s,[[x,y',z']]⟩ ∧ OwnTab H' x y' z' (t.wake p r1) ∧
   Frame H H' (fun k => k = l ∨ loc x = some k ∨ loc y = some k ∨ loc z = some k) ∧ (∀ k,loc y' = some k → loc y = some k ∨ H.next ≤ k) ∧ ∀ k,loc z' = some k → loc z = some k:=by
 rw [callV_inl rfl,ferry_ready_Table_wake_eq]
 have n1:¬ l = H.next:=by omega
 obtain ⟨lx,b,ex,hix,hbx,hrx,hfx⟩:=h.p.idx (k:=.i64) (i:=p) (by simpa using hp)
 have hlxn:=h.p.lt ex
 have n2:¬ lx = H.next:=by omega
 have n3:¬ l = lx:=fun e => hlx (e ▸ ex)
 have n4:¬ H.next = lx:=fun e => n2 e.symm
 have hpl:p < b.rows.length:=(List.getElem?_eq_some_iff.1 hrx).1
 have hgw:=hwp _ (List.getElem_mem hp)
 simp only [List.getElem_map] at hrx
 obtain ⟨a0,a1,a2,a3,a4,a5,a6,a7,a8,a9,a10,a11,a12,a13,a14,a15,hregs⟩:=len16 hgw
 have hrow:prRow t.ps[p] = [.int .u32 a0,.int .u32 a1,.int .u32 a2,.int .u32 a3,.int .u32 a4,.int .u32 a5,.int .u32 a6,.int .u32 a7,.int .u32 a8,.int .u32 a9,.int .u32 a10,.int .u32 a11,.int .u32 a12,.int .u32 a13,.int .u32 a14,.int .u32 a15,
   .int .u32 t.ps[p].pc,.int .i64 t.ps[p].state,.int .i64 t.ps[p].prio,.int .i64 t.ps[p].wait,.int .i64 t.ps[p].obj]:=by unfold prRow; rw [hregs]; rfl
 have hrow':prRow (wakeP r1 t.ps[p]) = [.int .u32 a0,.int .u32 r1,.int .u32 a2,.int .u32 a3,.int .u32 a4,.int .u32 a5,.int .u32 a6,.int .u32 a7,.int .u32 a8,.int .u32 a9,.int .u32 a10,.int .u32 a11,.int .u32 a12,.int .u32 a13,.int .u32 a14,.int .u32 a15,
   .int .u32 t.ps[p].pc,.int .i64 1,.int .i64 t.ps[p].prio,.int .i64 0,.int .i64 0]:=by unfold prRow wakeP; rw [hregs]; rfl
 rw [hrow] at hrx
 have hgs:∀ r:List V,(b.rows.set p r)[p]? = some r:=fun r => List.getElem?_set_self hpl
 have hai:aidxV 16 1 (.ptr lx p 0) (.int .i64 1) = some (.ptr lx p 1):=by simp [aidxV,padd]
 simp only [ferry_ready_Table_wake]
 (repeat' (first | (simp only [wp,extractV,w0,reduceIte,Nat.reduceAdd,Nat.reduceLT,Nat.reduceLeDiff,Nat.reduceEqDiff,hb,n1,n2,n3,n4,hix,nilCheckV,hbx,hrx,hfx,hgs,Heap.set_set,List.set_set,hai]) | (with_reducible ((first | apply xC | apply xG | apply xQ) <;> intro hb <;> try simp only [hb]))))
 rw [← hrow']
 refine (Run.slice (n:=0)).2 ⟨[intRow (p:Int)],rfl,?_⟩
 have hx0:=(h.p.frame (Frame.add ⟨1,[[.int .i64 (p:Int)]]⟩ (fun _ => False)) fun _ _ g => g).put (i:=p) ex ((Heap.add_old hlxn).trans hbx) (prRow (wakeP r1 t.ps[p]))
 rw [← setP_map hp (f:=wakeP r1)] at hx0
 have fr1:Frame H ((H.add ⟨1,[[.int .i64 (p:Int)]]⟩).set lx ⟨b.sz,b.rows.set p (prRow (wakeP r1 t.ps[p]))⟩) (fun k => loc x = some k) :=
  (Frame.add ⟨1,[[.int .i64 (p:Int)]]⟩ (fun _ => False)).trans (Frame.set _ lx (p:=fun k => loc x = some k) ex) (fun _ _ g => g.elim) (fun _ _ g => g)
 have hc1:((H.add ⟨1,[[.int .i64 (p:Int)]]⟩).set lx ⟨b.sz,b.rows.set p (prRow (wakeP r1 t.ps[p]))⟩).blk H.next = some ⟨1,[[.int .i64 (p:Int)]]⟩:=by rw [Heap.set_blk,if_neg n4]; exact Heap.add_new _
 have hn1:((H.add ⟨1,[[.int .i64 (p:Int)]]⟩).set lx ⟨b.sz,b.rows.set p (prRow (wakeP r1 t.ps[p]))⟩).next = H.next + 1:=rfl
 generalize (H.add ⟨1,[[.int .i64 (p:Int)]]⟩).set lx ⟨b.sz,b.rows.set p (prRow (wakeP r1 t.ps[p]))⟩ = H1 at hx0 fr1 hc1 hn1 ⊢
 have fr2:=fr1.trans (Frame.add ⟨1,[intRow (p:Int)]⟩ (fun _ => False)) (r:=fun k => loc x = some k) (fun _ _ g => g) (fun _ _ g => g.elim)
 have hHn:H.floor ≤ H.next:=by omega
 have hyn:∀ k,loc y = some k → k < H.next:=fun k hk => h.q.lt hk
 have hzn:∀ k,loc z = some k → k < H.next:=fun k hk => h.s.lt hk
 refine (Run.tapp (items:=[intRow (p:Int)]) (by rw [fr2.floor,Heap.add_next,hn1]; omega) (h.q.frame fr2 fun k h1 h2 => h.pq k h2 h1) (fun k hk => ?_) ?_ ?_).mono fun y' H3 ⟨oy,f3,l3⟩ => ?_
 ·have:=hyn k hk
  have h2:k < H.next + 1:=by omega
  simp [visB,h2]
 ·simp [itemsV,visB,Heap.add_next,Heap.add_blk,hn1]
 ·simp only [List.length_map,List.length_cons,List.length_nil]; unfold room; omega
 have fr3:=fr2.trans f3 (r:=fun k => loc x = some k ∨ loc y = some k) (fun _ _ g => .inl g) (fun _ _ g => .inr g)
 have hb3:H3.blk l = some ⟨s,[[x,y,z]]⟩:=(fr3.old l hln fun g => g.elim hlx hly).trans hb
 have hfl3:H3.floor ≤ l:=by rw [fr3.floor]; exact hl
 have hnx3:=fr3.next
 have hnx3':=f3.next
 rw [Heap.add_next,hn1] at hnx3'
 have hc3:H3.blk H.next = some ⟨1,[[.int .i64 (p:Int)]]⟩:=(f3.old H.next (by rw [Heap.add_next,hn1]; omega) fun g => by have:=hyn _ g; omega).trans ((Heap.add_old (by omega)).trans hc1)
 have hx3:Own H3 x 21 ((setP t.ps (p:Int) (wakeP r1)).map prRow):=(hx0.frame (Frame.add ⟨1,[intRow (p:Int)]⟩ (fun _ => False)) fun _ _ g => g).frame f3 fun k h1 h2 => h.pq k h1 h2
 have hz3:Own H3 z 2 (t.ts.map tmRow):=h.s.frame fr3 fun k h1 h2 => h2.elim (fun g => h.ps k g h1) (fun g => h.qs k g h1)
 have ly':∀ k,loc y' = some k → loc y = some k ∨ H.next < k:=fun k hk => (l3 k hk).imp id fun g => by rw [Heap.add_next,hn1] at g; omega
 (repeat' (first | (simp only [wp,extractV,w0,reduceIte,Nat.reduceAdd,Nat.reduceLT,Nat.reduceLeDiff,Nat.reduceEqDiff,hb3,hfl3,oy.cells]) | (with_reducible ((first | apply xC | apply xG | apply xQ) <;> intro hb <;> try simp only [hb]))))
 have f4:Frame H3 (H3.set l ⟨s,[[x,y',z]]⟩) (fun k => k = l):=Frame.set _ _ rfl
 have hF:∀ m,Asks G (n + 1 + m) (.fn 207 [.ptr H.next 0 0]) H.next ⟨1,[[.int .i64 (p:Int)]]⟩ (fun a => V.agg (tmRow a)) (fun a => decide (a.proc = (p:Int))):=fun m => by
  rw [Nat.add_right_comm]; exact wake_asks (n + m) H.next p
 refine (deleteF_tm (n + 1) hF (hz3.frame f4 fun k h1 h2 => hlz (h2 ▸ h1)) ((f4.old H.next (by omega) (fun g:H.next = l => n1 g.symm)).trans hc3) (fun g => by have:=hzn _ g; omega) (Nat.lt_of_lt_of_le (by omega:H.next < H3.next) f4.next) (by unfold big; omega)).mono fun z' H5 ⟨oz,f5,l5⟩ => ?_
 have hb5:H5.blk l = some ⟨s,[[x,y',z]]⟩:=(f5.old l (by show l < H3.next; omega) fun g => hlz g).trans (by rw [Heap.set_blk,if_pos rfl])
 have hfl5:H5.floor ≤ l:=by rw [f5.floor]; exact hfl3
 (repeat' (first | (simp only [wp,extractV,w0,reduceIte,Nat.reduceAdd,Nat.reduceLT,Nat.reduceLeDiff,Nat.reduceEqDiff,hb5,hfl5,oz.cells]) | (with_reducible ((first | apply xC | apply xG | apply xQ) <;> intro hb <;> try simp only [hb]))))
 have f6:Frame H5 (H5.set l ⟨s,[[x,y',z']]⟩) (fun k => k = l):=Frame.set _ _ rfl
 have hyl:loc y' ≠ some l:=fun g => by
  rcases ly' l g with g | g
  ·exact hly g
  ·omega
 have hzl:∀ k,loc z' = some k → k ≠ l:=fun k hk e => hlz (e ▸ l5 k hk)
 refine ⟨y',z',rfl,⟨?_,?_,?_,fun k h1 h2 => ?_,fun k h1 h2 => h.ps k h1 (l5 k h2),fun k h1 h2 => ?_⟩,?_,fun k hk => (ly' k hk).imp id fun g => by omega,l5⟩
 ·exact ((hx3.frame f4 fun k h1 h2 => hlx (h2 ▸ h1)).frame f5 fun k h1 h2 => h.ps k h1 h2).frame f6 fun k h1 h2 => hlx (h2 ▸ h1)
 ·have:=((oy.frame f4 fun k h1 h2 => hyl (h2 ▸ h1)).frame f5 fun k h1 h2 => by
   rcases ly' k h1 with g | g
   ·exact h.qs k g h2
   ·have:=hzn k h2; omega).frame f6 fun k h1 h2 => hyl (h2 ▸ h1)
  simp only [Tab.wake,List.map_append,List.map_cons,List.map_nil]
  exact this
 ·have:=oz.frame f6 fun k h1 h2 => hzl k h1 h2
  have ef:(t.ts.filter fun a => !decide (a.proc = (p:Int))) = t.ts.filter (·.proc ≠ (p:Int)):=List.filter_congr fun a _ => by simp
  rw [ef] at this
  exact this
 ·rcases ly' k h2 with g | g
  ·exact h.pq k h1 g
  ·have:=h.p.lt h1; omega
 ·have g2:=l5 k h2
  rcases ly' k h1 with g | g
  ·exact h.qs k g g2
  ·have:=hzn k g2; omega
 ·have a1:=fr3.trans f4 (r:=fun k => k = l ∨ loc x = some k ∨ loc y = some k ∨ loc z = some k) (fun _ _ g => .inr (g.imp id .inl)) (fun _ _ g => .inl g)
  exact (a1.trans f5 (r:=fun k => k = l ∨ loc x = some k ∨ loc y = some k ∨ loc z = some k) (fun _ _ g => g) (fun _ _ g => .inr (.inr (.inr g)))).trans f6 (fun _ _ g => g) (fun _ _ g => .inl g)
end Go.Fv.Tr
