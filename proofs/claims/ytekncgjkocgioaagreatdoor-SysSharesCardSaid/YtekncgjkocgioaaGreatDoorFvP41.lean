/-
  System calls: clear, stop, yield. By an AI agent; no person has read it.
-/
import Derived.Test.YtekncgjkocgioaaGreatDoorFvP40
set_option linter.unusedVariables false
set_option linter.unusedSimpArgs false
set_option linter.unusedSectionVars false
/-! System calls: clear, stop, yield. -/
namespace Go.Fv.Tr
open Go Go.Fv Go.Fv.Pl Go.Proofs
variable {G:GV}
namespace Sy
variable {l m:List V} {s:St} {p:Pn} {x y z a b c d x' y' z' u v w g:V} {pr:List (List V)} {k:List V} {H H' K:Heap} {i:Nat} {pc tk ft:Int} {rep:V}
theorem tabOk_setR {s:St} (h:TabOk s.t) {pc:Int} {q:Pr} (hq:at? s.t.ps pc = some q) {k:Nat} (hk:0 < k) (n:Int):TabOk (setR s pc k n).t:=by
 obtain ⟨⟨g1,g2,g3,g4,g5,g6,g7⟩,r2,r3⟩:=h.at hq
 exact TabOk_put (f:=fun q => { q with regs:=q.regs.set k n }) h hq h.ts ⟨⟨by rw [← g1]; exact List.getElem?_set_ne (by omega),g2,g3,g4,g5,g6,g7⟩,r2,r3⟩ (fun _ _ => Iff.rfl) (fun _ _ => Iff.rfl) (show pc ∈ s.t.q ↔ q.state = 1 from mem_queue (p:=q) h hq) h.q.2.1
theorem at_setR {s:St} {pc:Int} {q:Pr} (hq:at? s.t.ps pc = some q) (k:Nat) (n:Int):at? (setR s pc k n).t.ps pc = some { q with regs:=q.regs.set k n }:=by
 show at? (setP s.t.ps pc _) pc = _
 rw [at?_set (at?_lt hq).1,if_pos rfl,hq]
 rfl
theorem regAt_setR {s:St} {pc:Int} {q:Pr} (hq:at? s.t.ps pc = some q) (k j:Nat) (n:Int):regAt (setR s pc k n) pc j = if j = k ∧ k < q.regs.length then n else regAt s pc j:=by
 unfold regAt
 rw [at_setR hq,hq]
 show ((q.regs.set k n)[j]?).getD 0 = _
 by_cases e:k = j
 ·subst e
  by_cases hl:k < q.regs.length
  ·rw [if_pos ⟨rfl,hl⟩,List.getElem?_set_self hl]; rfl
  ·rw [if_neg (fun g => hl g.2),List.set_eq_of_length_le (by omega)]
   rfl
 ·rw [if_neg (fun g => e g.1.symm),List.getElem?_set_ne e]
  rfl
theorem Can.setR {s:St} {pc tk:Int} (h:Can s pc tk) {k:Nat} (hk:0 < k) {n:Int} (hn:RegOk n):Can (setR s pc k n) pc tk:=by
 obtain ⟨q,h1,h2⟩:=Option.map_eq_some_iff.1 h.run
 refine ⟨tabOk_setR h.ok h1 hk n,?_,h.tk,fun j hj => ?_⟩
 ·rw [at_setR h1]
  simpa using h2
 ·rw [regAt_setR h1]
  split
  ·exact hn
  ·exact h.reg j hj
end Sy
end Go.Fv.Tr
namespace Go.Fv.Tr
open Go Go.Fv Go.Fv.Pl Go.Proofs
variable {G:GV}
namespace Sy
variable {l m:List V} {s:St} {p:Pn} {x y z a b c d x' y' z' u v w g:V} {pr:List (List V)} {k:List V} {H H' K:Heap} {i:Nat} {pc tk ft:Int} {rep:V}
end Sy
end Go.Fv.Tr
namespace Go.Fv.Tr
open Go Go.Fv Go.Proofs
set_option maxRecDepth 20000
noncomputable def ferry_sys_table (G:GV) (call:CV) :M R :=
 (M.ret V.nils).bind fun aA =>
 (M.lift (buildV [(V.str ⟨#[]⟩),(V.int .i64 0),V.nilf] [(0,1,(V.str ⟨#[121,105,101,108,100]⟩)),(1,1,(V.int .i64 0)),(2,1,(V.fn 39 []))])).bind fun aB =>
 (M.lift (buildV [(V.str ⟨#[]⟩),(V.int .i64 0),V.nilf] [(0,1,(V.str ⟨#[115,116,111,112]⟩)),(1,1,(V.int .i64 0)),(2,1,(V.fn 40 []))])).bind fun aC =>
 (M.lift (buildV [(V.str ⟨#[]⟩),(V.int .i64 0),V.nilf] [(0,1,(V.str ⟨#[115,116,97,114,116]⟩)),(1,1,(V.int .i64 1)),(2,1,(V.fn 41 []))])).bind fun aD =>
 (M.lift (buildV [(V.str ⟨#[]⟩),(V.int .i64 0),V.nilf] [(0,1,(V.str ⟨#[115,108,101,101,112]⟩)),(1,1,(V.int .i64 1)),(2,1,(V.fn 42 []))])).bind fun aE =>
 (M.lift (buildV [(V.str ⟨#[]⟩),(V.int .i64 0),V.nilf] [(0,1,(V.str ⟨#[112,114,105,111]⟩)),(1,1,(V.int .i64 2)),(2,1,(V.fn 43 []))])).bind fun aF =>
 (M.lift (buildV [(V.str ⟨#[]⟩),(V.int .i64 0),V.nilf] [(0,1,(V.str ⟨#[116,105,109,101]⟩)),(1,1,(V.int .i64 0)),(2,1,(V.fn 44 []))])).bind fun aG =>
 (M.lift (buildV [(V.str ⟨#[]⟩),(V.int .i64 0),V.nilf] [(0,1,(V.str ⟨#[114,97,105,115,101]⟩)),(1,1,(V.int .i64 1)),(2,1,(V.fn 45 []))])).bind fun aH =>
 (M.lift (buildV [(V.str ⟨#[]⟩),(V.int .i64 0),V.nilf] [(0,1,(V.str ⟨#[115,101,116]⟩)),(1,1,(V.int .i64 1)),(2,1,(V.fn 46 []))])).bind fun aI =>
 (M.lift (buildV [(V.str ⟨#[]⟩),(V.int .i64 0),V.nilf] [(0,1,(V.str ⟨#[99,108,101,97,114]⟩)),(1,1,(V.int .i64 1)),(2,1,(V.fn 47 []))])).bind fun aJ =>
 (M.lift (buildV [(V.str ⟨#[]⟩),(V.int .i64 0),V.nilf] [(0,1,(V.str ⟨#[97,119,97,105,116]⟩)),(1,1,(V.int .i64 2)),(2,1,(V.fn 48 []))])).bind fun aK =>
 (M.lift (buildV [(V.str ⟨#[]⟩),(V.int .i64 0),V.nilf] [(0,1,(V.str ⟨#[115,105,103,110,97,108]⟩)),(1,1,(V.int .i64 1)),(2,1,(V.fn 49 []))])).bind fun aL =>
 (M.lift (buildV [(V.str ⟨#[]⟩),(V.int .i64 0),V.nilf] [(0,1,(V.str ⟨#[116,97,107,101]⟩)),(1,1,(V.int .i64 2)),(2,1,(V.fn 50 []))])).bind fun aM =>
 (M.lift (buildV [(V.str ⟨#[]⟩),(V.int .i64 0),V.nilf] [(0,1,(V.str ⟨#[114,101,97,100]⟩)),(1,1,(V.int .i64 2)),(2,1,(V.fn 51 []))])).bind fun aN =>
 (M.lift (buildV [(V.str ⟨#[]⟩),(V.int .i64 0),V.nilf] [(0,1,(V.str ⟨#[119,114,105,116,101]⟩)),(1,1,(V.int .i64 3)),(2,1,(V.fn 52 []))])).bind fun aO =>
 (M.lift (buildV [(V.str ⟨#[]⟩),(V.int .i64 0),V.nilf] [(0,1,(V.str ⟨#[112,111,114,116]⟩)),(1,1,(V.int .i64 2)),(2,1,(V.fn 53 []))])).bind fun aP =>
 (sliceV 3 15 [(V.str ⟨#[]⟩),(V.int .i64 0),V.nilf] [(0,aB),(1,aC),(2,aD),(3,aE),(4,aF),(5,aG),(6,aH),(7,aI),(8,aJ),(9,aK),(10,aL),(11,aM),(12,aN),(13,aO),(14,aP)]).bind fun aQ =>
 (M.ret aQ).bind fun aR =>
 M.ret (Ex.ret,[aR])
theorem ferry_sys_table_eq (G:GV) (n:Nat) :sem (cfg G) (n + 1) 26 [] = outV (ferry_sys_table G (sem (cfg G) n) ) :=
 (fnV_at (C:=cfg G) (n:=n) (f:=26) (fn:=Tryz.f26) (c:=Tryz.f26.body.getD .skip) (by kernel_rfl) (by kernel_rfl) (by kernel_rfl) []).trans (by kernel_rfl)
end Go.Fv.Tr
namespace Go.Fv.Tr
open Go Go.Fv Go.Proofs
variable {G:GV}
def nameL:List (List UInt8):=[[121,105,101,108,100],[115,116,111,112],[115,116,97,114,116],[115,108,101,101,112],[112,114,105,111],[116,105,109,101],[114,97,105,115,101],[115,101,116],[99,108,101,97,114],[97,119,97,105,116],[115,105,103,110,97,108],[116,97,107,101],[114,101,97,100],[119,114,105,116,101],[112,111,114,116]]
def argL:List Int:=[0,0,1,1,2,0,1,1,1,2,1,2,2,3,2]
def nmAt (k:Nat):List UInt8:=nameL.getD k []
def agAt (k:Nat):Int:=argL.getD k 0
def tabRows:List (List V):=(List.range 15).map fun k => [.str (bs (nmAt k)),.int .i64 (agAt k),.fn (39 + k) []]
theorem tab_at {k:Nat} (h:k < 15):tabRows[k]? = some [.str (bs (nmAt k)),.int .i64 (agAt k),.fn (39 + k) []]:=by
 unfold tabRows
 rw [List.getElem?_map,List.getElem?_range h]
 rfl
set_option maxRecDepth 20000 in
theorem table_run (n:Nat) {H:Heap} {Q:V → Heap → Prop}:Run (callV (cfg G) (sem (cfg G) (n + 1)) 26 []) H Q ↔ Q (.ref H.next 3 0 15 15 true) (H.add ⟨3,tabRows⟩):=by
 refine Run.eq ?_
 rw [callV_inl rfl,ferry_sys_table_eq]
 rfl
theorem idx15 {l:Nat} {m:Int} (h0:0 ≤ m) (h:m < 15):idxV 3 (.ref l 3 0 15 15 true) (.int .i64 m) = some (.ptr l m.toNat 0):=by
 simp [idxV,h0,h]
theorem len15 {l:Nat}:lenV (.ref l 3 0 15 15 true) = some (.int .i64 15):=rfl
end Go.Fv.Tr
namespace Go.Fv.Tr
open Go Go.Fv Go.Fv.Pl Go.Proofs
variable {G:GV}
namespace Sy
variable {l m:List V} {s:St} {p:Pn} {x y z a b c d x' y' z' u v w g:V} {pr:List (List V)} {k:List V} {H H' K:Heap} {i:Nat} {pc tk ft:Int} {rep:V}
theorem StOk.tab (h:StOk p s) (hw:∀ q ∈ s.t.ps,Wp q):TabOk s.t:=by
 have r3:=h.2 2 (by decide)
 have r4:=h.2 3 (by decide)
 have r5:=h.2 4 (by decide)
 have r6:=h.2 5 (by decide)
 have r7:=h.2 6 (by decide)
 have r8:=h.2 7 (by decide)
 have r9:=h.2 8 (by decide)
 have e3:s.t.ps.length = p.procs.length:=r3.1
 refine ⟨by have:=h.1.procs.1.2; omega,r8,fun j q hq => ?_,r7⟩
 obtain ⟨hj,e⟩:=List.getElem?_eq_some_iff.1 hq
 have hm:q ∈ s.t.ps:=e ▸ List.getElem_mem hj
 have n4:NumOk q:=r4 q hm
 have n5:q.wait ≠ 0 ↔ q.state = 2:=r5 q hm
 have n6:ObjOk p q.wait q.obj:=r6 q hm
 have hob:0 ≤ q.obj ∧ (q.obj = 0 ∨ q.wait ≠ 0 ∧ q.wait ≠ 1):=by
  unfold ObjOk at n6
  split at n6
  ·exact ⟨n6.1,.inr ⟨by omega,by omega⟩⟩
  ·split at n6
   ·exact ⟨n6.1,.inr ⟨by omega,by omega⟩⟩
   ·split at n6
    ·exact ⟨n6.1,.inr ⟨by omega,by omega⟩⟩
    ·exact ⟨by omega,.inl n6⟩
 have hreg:q.regs[0]? = some 0:=by
  have hl:0 < q.regs.length:=by rw [show q.regs.length = 16 from hw q hm]; decide
  have:=n4.1
  unfold reg0 at this
  rw [List.getElem?_eq_getElem hl] at this ⊢
  simpa using this
 refine ⟨⟨hreg,n4.2.1,n4.2.2.1,n4.2.2.2,n5,hob.1,hob.2⟩,fun ht => ?_,fun ht hw1 => ?_⟩
 ·obtain ⟨a,ha,e2⟩:=List.mem_map.1 ht
  refine r9.1 a ha q ?_
  rw [e2]
  unfold at?
  rw [if_pos (by omega),Int.toNat_natCast]
  exact hq
 ·exact ht (r9.2 j hj q hq hw1)
def NewRes (K:Heap) (s:St) (r:V) (K':Heap):Prop:=∃ l x y z u v w g pr,r = .tuple [.agg (l ++ [.nils,i64 0]),.nili] ∧ MS K' l s x y z u v w g pr ∧ Frame K K' (fun _ => False) ∧ ∀ n ∈ lv [x,y,z,u,v,w,g] ++ lr pr,K.next ≤ n
set_option maxRecDepth 20000 in
set_option maxHeartbeats 2000000 in
theorem do_gen (hA:BErrs G) (n:Nat) (hp:PnS l p a b c d) (hs:StS m s x y z u v w g pr) (hb:StB s) (hok:StOk p s) (hpc:0 ≤ pc ∧ pc < s.t.ps.length) (hst:(at? s.t.ps pc).map Pr.state = some 1) (htk:0 ≤ tk ∧ tk ≤ 10000) {call:Nat} (hc:call < 15) {s':St}
  (meth:∀ {H:Heap} {i:Nat} {a b c d x y z u v w g:V} {pr:List (List V)},ClX H i p s pc tk .nils 0 a b c d x y z u v w g pr → H.floor = 0 →
   Run (callV (cfg G) (sem (cfg G) (n + 10)) (39 + call) [.ptr i 0 0]) H fun r H' => r = .tuple [] ∧ Cl H i p s' pc tk .nils 0 (fp i x y z u v w g pr) H')
  {K:Heap} (hK:K.floor ≤ K.next):Run (callV (cfg G) (sem (cfg G) (n + 11)) 10 [.agg l,.agg m,i64 pc,i64 (call:Nat),i64 tk]) K (NewRes K s'):=by
 refine callV_own rfl (mapM_closedV (by simp [hp.closedV,hs.closedV,cI]) K) ?_
 have hck:=check_val hA n hp hs
 rw [bad_none hok] at hck
 have hp':=hp
 have hs':=hs
 obtain ⟨rfl,-⟩:=hp
 obtain ⟨rfl,ht,-⟩:=hs
 rw [ferry_sys_Do_eq]
 simp only [ferry_sys_Do]
 have d1:decide (pc < 0) = false:=by rw [decide_eq_false_iff_not]; omega
 have d2:decide ((s.t.ps.length:Int) ≤ pc) = false:=by rw [decide_eq_false_iff_not]; omega
 have d3:decide (tk < 0) = false:=by rw [decide_eq_false_iff_not]; omega
 have d4:decide ((10000:Int) < tk) = false:=by rw [decide_eq_false_iff_not]; omega
 have d5:decide (((call:Nat):Int) < 0) = false:=by rw [decide_eq_false_iff_not]; omega
 have d6:decide ((15:Int) ≤ ((call:Nat):Int)) = false:=by rw [decide_eq_false_iff_not]; omega
 obtain ⟨q,hq1,hq2⟩:=Option.map_eq_some_iff.1 hst
 obtain ⟨hi,hwq⟩:=ht.at hq1
 have e1:(q.state == 1) = true:=by simpa using hq2
 have hnil:badE none = V.nili:=rfl
 have hix:∀ {l:Nat},idxV 3 (.ref l 3 0 15 15 true) (.int .i64 ((call:Nat):Int)) = some (.ptr l call 0):=fun {l} => by
  have:=idx15 (l:=l) (m:=((call:Nat):Int)) (by omega) (by omega)
  simpa using this
 (repeat' (first | (simp only [wp,extractV,w0,reduceIte,Nat.reduceAdd,Nat.reduceLT,Nat.reduceLeDiff,Nat.reduceEqDiff,hck,hnil,eq_nili,ht.p.len,List.length_map,d1,d2,d3,d4,d5,d6,hi,pr_state hwq,e1,Go.Fv.Tr.table_run,len15]) | (with_reducible ((first | apply xC | apply xG | apply xQ) <;> intro hb <;> try simp only [hb]))))
 generalize hH0:((((Heap.empty.add ⟨7,[[i64 p.id,.bool p.mob,a,b,c,i64 p.ev,d]]⟩).add ⟨10,[[i64 s.id,i64 s.fr,i64 s.ep,x,y,z,u,v,w,g]]⟩).add ⟨12,[[.int .i64 0,.int .i64 0,.int .i64 0,.nils,.nils,.nils,.nils,.nils,.nils,.nils,.nils,.int .i64 0]]⟩).add ⟨3,tabRows⟩) = H0
 have n0:H0.next = 4:=by rw [← hH0]; rfl
 have b2:H0.blk 2 = some ⟨12,[[.int .i64 0,.int .i64 0,.int .i64 0,.nils,.nils,.nils,.nils,.nils,.nils,.nils,.nils,.int .i64 0]]⟩:=by rw [← hH0]; rfl
 have b3:H0.blk 3 = some ⟨3,tabRows⟩:=by rw [← hH0]; rfl
 have fl0:H0.floor = 0:=by rw [← hH0]; rfl
 clear hH0
 refine q_newst (s':=s) (fun q hq => visB_low (by omega) _) (by omega) (fun K k1 k2 k3 => copy_new (n + 7) hs' hb k2) fun r H1 hN => ?_
 obtain ⟨l2,x2,y2,z2,u2,v2,w2,g2,pr2,rfl,ms2,f1,hge⟩:=hN
 have e2:=ms2.eq
 subst e2
 have b2:=(f1.old 2 (by omega) id).trans b2
 have b3:=(f1.old 3 (by omega) id).trans b3
 have fl1:=f1.floor.trans fl0
 have n1:=f1.next
 have m3:¬ (3 = H1.next):=by omega
 (repeat' (first | (simp only [wp,extractV,w0,reduceIte,Nat.reduceAdd,Nat.reduceLT,Nat.reduceLeDiff,Nat.reduceEqDiff,buildV,fill,putRow,hix,b3,m3,tab_at hc,callFn0]) | (with_reducible ((first | apply xC | apply xG | apply xQ) <;> intro hb <;> try simp only [hb]))))
 have fa:Frame H1 (H1.add ⟨21,[[i64 p.id,.bool p.mob,a,b,c,i64 p.ev,d,i64 s.id,i64 s.fr,i64 s.ep,x2,y2,z2,u2,v2,w2,g2,i64 pc,i64 tk,.nils,.int .i64 0]]⟩) (fun _ => False):=Frame.add _ _
 have hx:ClX (H1.add ⟨21,[[i64 p.id,.bool p.mob,a,b,c,i64 p.ev,d,i64 s.id,i64 s.fr,i64 s.ep,x2,y2,z2,u2,v2,w2,g2,i64 pc,i64 tk,.nils,.int .i64 0]]⟩) H1.next p s pc tk .nils 0 a b c d x2 y2 z2 u2 v2 w2 g2 pr2 :=
  ⟨Heap.add_new _,Nat.lt_succ_self _,⟨_,hp'⟩,⟨_,ms2.frame fa fun _ _ => id⟩,fun g => by have:=ms2.lt g; omega,hpc,hb⟩
 have fl2:(H1.add ⟨21,[[i64 p.id,.bool p.mob,a,b,c,i64 p.ev,d,i64 s.id,i64 s.fr,i64 s.ep,x2,y2,z2,u2,v2,w2,g2,i64 pc,i64 tk,.nils,.int .i64 0]]⟩).floor = 0:=fl1
 have b2:=(fa.old 2 (by omega) id).trans b2
 have nx2:(H1.add ⟨21,[[i64 p.id,.bool p.mob,a,b,c,i64 p.ev,d,i64 s.id,i64 s.fr,i64 s.ep,x2,y2,z2,u2,v2,w2,g2,i64 pc,i64 tk,.nils,.int .i64 0]]⟩).next = H1.next + 1:=rfl
 generalize (H1.add ⟨21,[[i64 p.id,.bool p.mob,a,b,c,i64 p.ev,d,i64 s.id,i64 s.fr,i64 s.ep,x2,y2,z2,u2,v2,w2,g2,i64 pc,i64 tk,.nils,.int .i64 0]]⟩) = H2 at *
 refine (meth hx fl2).mono fun r H3 ⟨_,hC⟩ => ?_
 obtain ⟨a3,b3',c3,d3,x3,y3,z3,u3,v3,w3,g3,pr3,hx3,hf3,f3⟩:=hC
 have b2:=(f3.old 2 (by omega) fun hm => by
  rcases List.mem_cons.1 hm with e | hm
  ·omega
  ·have:=hge 2 hm
   omega).trans b2
 have fl3:H3.floor ≤ 2:=by have:=f3.floor; omega
 have hb3:=hx3.blk
 have n3:=f3.next
 have m4:¬ (H1.next = 2):=by omega
 (repeat' (first | (simp only [wp,extractV,w0,reduceIte,Nat.reduceAdd,Nat.reduceLT,Nat.reduceLeDiff,Nat.reduceEqDiff,nil_ptr,hb3,beq_self_eq_true,buildV,fill,putRow,b2,fl3,m4,tupV]) | (with_reducible ((first | apply xC | apply xG | apply xQ) <;> intro hb <;> try simp only [hb]))))
 obtain ⟨l3,ms3⟩:=hx3.ms
 have hno2:∀ q ∈ lv [x3,y3,z3,u3,v3,w3,g3] ++ lr pr3,q ≠ 2:=fun q hq e => by
  rcases hf3 q (List.mem_cons_of_mem _ hq) with h | h
  ·rcases List.mem_cons.1 h with h | h
   ·omega
   ·have:=hge q h
    omega
  ·omega
 have el3:=ms3.eq
 subst el3
 have ms4:=ms3.frame (Frame.set (H:=H3) ⟨12,[[i64 s'.id,i64 s'.fr,i64 s'.ep,x3,y3,z3,u3,v3,w3,g3,.nils,.int .i64 0]]⟩ 2 (p:=fun q => q = 2) rfl) hno2
 obtain ⟨r,ls,h1,h2⟩:=ms4.gives
 have h3:=gives_app h1 (show gives _ [.nils,i64 0] ls = some ([.nils,i64 0],ls) from rfl)
 refine ⟨.tuple [.agg (r ++ [.nils,i64 0]),.nili],?_,?_⟩
 ·have h3':gives (H3.set 2 ⟨12,[[i64 s'.id,i64 s'.fr,i64 s'.ep,x3,y3,z3,u3,v3,w3,g3,.nils,.int .i64 0]]⟩) [i64 s'.id,i64 s'.fr,i64 s'.ep,x3,y3,z3,u3,v3,w3,g3,.nils,.int .i64 0] [] = some (r ++ [.nils,i64 0],ls):=h3
  simp only [giveV,gives2,give2,h3',Option.bind_some]
  rfl
 ·simp only [takeV,takes2,take2,Run.bind,Run.ret]
  refine takes_app ((h2 K hK).mono fun l' K' ⟨x',y',z',u',v',w',g',pr',h4,h5,h6⟩ => ?_)
  exact Run.of rfl (Run.of rfl ⟨l',x',y',z',u',v',w',g',pr',rfl,h4,h5,h6⟩)
end Sy
end Go.Fv.Tr
namespace Go.Fv
open Go
noncomputable def runKc (C:Cfg) (call:CV) (fuel:Nat) (T:List Nat) (c:Code):Env → (Ex → Env → M R) → M R :=
 Code.rec (motive:=fun _ => Env → (Ex → Env → M R) → M R)
  (fun env K => K .normal env)
  (fun _ ops draw env K => match draw with
   | false => runOps C call ops ops.toList env (K .normal)
   | true => if orderOk ops then fun h => runDrawn C call ops h.next ops.toList 0 [] env (K .normal) h else M.fail)
  (fun _ _ ra rb env K => ra env (onNormal (fun env' => rb env' K) K))
  (fun c _ _ ra rb env K => condV (ev C env c) (ra env K) (rb env K))
  (fun id _ rc env K => rc env (onBlock id K))
  (fun c rc env K => (iter (fun s => rc (restore env (carried T c) (allDsts c) s) fun e env' => M.ret (e,(carried T c).map env')) fuel ((carried T c).map env)).bind
   (onLoop K env (carried T c) (allDsts c)))
  (fun _ _ _ _ _ _ _ _ => M.fail)
  (fun id env K => K (.exit id) env)
  (fun _ _ _ _ => M.fail)
  (fun _ env K => K .normal env)
  (fun _ _ _ => M.fail)
  (fun env K => K .ret env)
  (fun _ _ _ => M.fail)
  c
noncomputable def bodyVc (C:Cfg) (call:CV) (fuel:Nat) (fn:Func) (c:Code) (args:List V):M V :=
 if okFn fn c then (runKc C call fuel (reads c ++ fn.results.toList.map fun | .tmp t => t | .cell a _ => a) c (fun t => args.getD t .undef) (finish C.P fn)).bind fun r => M.ret (r.2.getD 0 .undef) else M.fail
noncomputable def fnVc (C : Cfg) (call : CV) (fuel : Nat) (f : FuncId) (args : List V) : M V :=
  match C.P.funcs[f]? with
  | some fn => match fn.body with
    | some c => if fn.name = "runtime.NumGoroutine" then M.fail else bodyVc C call fuel fn c args
    | none => M.fail
  | none => M.fail
noncomputable def semC (C:Cfg) (fuel:Nat):Nat → FuncId → List V → M V
 | 0 => fun _ _ => M.fail
 | n + 1 => fun f args => fnVc C (semC C fuel n) fuel f args
def Le {α:Type} (m m':M α):Prop:=∀ H r,m H = some r → m' H = some r
section
variable {α β:Type}
theorem Le.refl (m:M α):Le m m:=fun _ _ h => h
theorem Le.fail (m:M α):Le M.fail m:=fun _ _ h => by cases h
theorem Le.bind {m m' : M α} {f f' : α → M β} (hm : Le m m') (hf : ∀ a, Le (f a) (f' a)) : Le (M.bind m f) (M.bind m' f') := fun H r h => by
  simp only [M.bind] at h ⊢
  cases e:m H with
  | none => rw [e] at h; cases h
  | some x =>
    rw [e] at h
    rw [hm H x e]
    exact hf x.1 x.2 r h
theorem Le.ite {c:Prop} [Decidable c] {m m' n n':M α} (h1:Le m m') (h2:Le n n'):Le (if c then m else n) (if c then m' else n'):=by
 by_cases h:c
 ·rw [if_pos h,if_pos h]; exact h1
 ·rw [if_neg h,if_neg h]; exact h2
theorem Le.cond {v:V} {m m' n n':M α} (h1:Le m m') (h2:Le n n'):Le (condV v m n) (condV v m' n'):=by
 cases v with
 | bool t => cases t; exact h2; exact h1
 | _ => exact Le.refl _
end
section
variable {C:Cfg} {call call':FuncId → List V → M V}
theorem callP_le {own : Bool} {f f' : List V → M V} (hf : ∀ az, Le (f az) (f' az)) (args : List V) : Le (callP own f args) (callP own f' args) := fun H r h => by
  simp only [callP] at h ⊢
  cases hm:args.mapM (thawV true H) with
  | none => rw [hm] at h; cases h
  | some az =>
    rw [hm] at h
    simp only [Option.bind_some] at h ⊢
    cases e:f az Heap.empty with
    | none => rw [e] at h; cases h
    | some x =>
      rw [e] at h
      rw [hf az Heap.empty x e]
      exact h
theorem callV_le (hc:∀ f az,Le (call f az) (call' f az)) (f:FuncId) (args:List V):Le (callV C call f args) (callV C call' f args):=by
 unfold callV
 cases C.kind f with
 | inl => exact hc f args
 | pure => exact callP_le (hc f) args
 | own => exact callP_le (hc f) args
 | ext => exact Le.refl _
 | exts => exact Le.refl _
 | extm => exact Le.refl _
theorem callFn_le (hc:∀ f az,Le (call f az) (call' f az)) (x:V) (args:List V):Le (callFn C call x args) (callFn C call' x args):=by
 cases x <;> first | exact callV_le hc _ _ | exact Le.refl _
theorem stepV_le (hc : ∀ f az, Le (call f az) (call' f az)) (e : Operand → V) (o : Op) : Le (stepV C call e o) (stepV C call' e o) := by
  cases o with
  | call c =>
    obtain ⟨callee,args,ats⟩:=c
    cases callee with
    | value f => exact callFn_le hc _ _
    | builtin b => exact Le.refl _
    | invoke r n => exact Le.refl _
  | _ => exact Le.refl _
theorem guardV_le {v:V} {w:Bool} {m m':M V} (h:Le m m'):Le (guardV v w m) (guardV v w m'):=by
 cases v with
 | bool b => exact Le.ite h (Le.refl _)
 | _ => exact Le.refl _
theorem guarded_le (hc : ∀ f az, Le (call f az) (call' f az)) (ops : Array Oper) (env : Env) (o : Oper) : Le (guarded C call ops env o) (guarded C call' ops env o) := by
  unfold guarded
  cases o.guard with
  | none => exact stepV_le hc _ _
  | some g =>
    obtain ⟨j,w⟩:=g
    simp only
    cases (ops[j]?).bind (·.dst) with
    | none => exact Le.refl _
    | some d => exact guardV_le (stepV_le hc _ _)
theorem runOps_le (hc:∀ f az,Le (call f az) (call' f az)) (ops:Array Oper):∀ (l:List Oper) (env:Env) (K K':Env → M R),(∀ env,Le (K env) (K' env)) → Le (runOps C call ops l env K) (runOps C call' ops l env K')
 | [],env,K,K',hK => hK env
 | o :: l,env,K,K',hK => Le.bind (guarded_le hc ops env o) fun v => runOps_le hc ops l _ K K' hK
theorem qrun_le {v:Nat → Bool} {m m':M V} (h:Le m m'):Le (qrun v m) (qrun v m'):=fun H r e => by
 simp only [qrun] at e ⊢
 cases hm:m ⟨fun l => if v l then H.blk l else none,H.next,H.next⟩ with
 | none => rw [hm] at e; cases e
 | some x => rw [hm] at e; rw [h _ x hm]; exact e
theorem trun_le {v:Nat → Bool} {m m':M V} (h:Le m m'):Le (trun v m) (trun v m'):=fun H r e => by
 simp only [trun] at e ⊢
 cases hm:m ⟨fun l => if v l then H.blk l else none,H.next,H.floor⟩ with
 | none => rw [hm] at e; cases e
 | some x => rw [hm] at e; rw [h _ x hm]; exact e
theorem stepD_le (hc:∀ f az,Le (call f az) (call' f az)) (ops:Array Oper) (n0 i:Nat) (bs:List (Nat × Nat × Nat × V)) (env:Env) (o:Oper):Le (stepD C call ops n0 i bs env o) (stepD C call' ops n0 i bs env o):=by
 unfold stepD
 exact Le.ite (trun_le (guarded_le hc ops env o)) (Le.ite (qrun_le (guarded_le hc ops env o)) (Le.ite (Le.refl _) (guarded_le hc ops env o)))
theorem runDrawn_le (hc : ∀ f az, Le (call f az) (call' f az)) (ops : Array Oper) (n0 : Nat) : ∀ (l : List Oper) (i : Nat) (bs : List (Nat × Nat × Nat × V)) (env : Env) (K K' : Env → M R), (∀ env, Le (K env) (K' env)) →
    Le (runDrawn C call ops n0 l i bs env K) (runDrawn C call' ops n0 l i bs env K')
  | [],i,bs,env,K,K',hK => hK env
  | o :: l, i, bs, env, K, K', hK => fun H r h => by
    have e : ∀ (cl : FuncId → List V → M V) (Kx : Env → M R), runDrawn C cl ops n0 (o :: l) i bs env Kx H = if (conf ops i).all fun k => apartV (ptrAt bs k) (ptrOf C env o.op) then
        (stepD C cl ops n0 i bs env o H).bind fun x => runDrawn C cl ops n0 l (i + 1) ((i,H.next,x.2.next,ptrOf C env o.op) :: bs) (put env o.dst x.1) Kx x.2 else none:=fun _ _ => rfl
    rw [e] at h ⊢
    split at h
    · rename_i hcf
      rw [if_pos hcf]
      cases hs:stepD C call ops n0 i bs env o H with
      | none => rw [hs] at h; cases h
      | some x =>
        rw [hs] at h
        rw [stepD_le hc ops n0 i bs env o H x hs]
        exact runDrawn_le hc ops n0 l _ _ _ K K' hK x.2 r h
    · cases h
theorem iter_le {F F' : List V → M R} (hF : ∀ s, Le (F s) (F' s)) : ∀ (n : Nat) (s : List V), Le (iter F n s) (iter F' n s)
  | 0,s => Le.refl _
  | n + 1, s => by
    have e:∀ G:List V → M R,iter G (n + 1) s = M.bind (G s) fun r => match r.1 with | .normal => iter G n r.2 | _ => M.ret r:=fun _ => rfl
    rw [e F,e F']
    refine Le.bind (hF s) fun r => ?_
    obtain ⟨ex,s'⟩:=r
    cases ex with
    | normal => exact iter_le hF n s'
    | exit j => exact Le.refl _
    | ret => exact Le.refl _
theorem iter_loop {F:List V → M R} (n:Nat) (s:List V):Le (iter F n s) (loopV F s):=fun H r h => loopV_of h
theorem runK_le (hc : ∀ f az, Le (call f az) (call' f az)) (fuel : Nat) (T : List Nat) : ∀ (c : Code) (env : Env) (K K' : Ex → Env → M R), (∀ e env, Le (K e env) (K' e env)) → Le (runKc C call fuel T c env K) (runK C call' T c env K') := by
  intro c
  induction c with
  | region id ops draw =>
    intro env K K' hK
    cases draw with
    | false => exact runOps_le hc ops _ env _ _ (hK .normal)
    | true =>
      show Le (if orderOk ops then fun h => runDrawn C call ops h.next ops.toList 0 [] env (K .normal) h else M.fail) (if orderOk ops then fun h => runDrawn C call' ops h.next ops.toList 0 [] env (K' .normal) h else M.fail)
      refine Le.ite (fun H r h => ?_) (Le.refl _)
      exact runDrawn_le hc ops H.next _ 0 [] env _ _ (hK .normal) H r h
  | seq a b iha ihb =>
    intro env K K' hK
    refine iha env _ _ fun e env' => ?_
    cases e with
    | normal => exact ihb env' K K' hK
    | exit j => exact hK _ _
    | ret => exact hK _ _
  | cond o a b iha ihb => intro env K K' hK; exact Le.cond (iha env K K' hK) (ihb env K K' hK)
  | block id c ih =>
    intro env K K' hK
    refine ih env _ _ fun e env' => ?_
    cases e with
    | normal => exact hK _ _
    | exit j => exact Le.ite (hK _ _) (hK _ _)
    | ret => exact hK _ _
  | loop c ih =>
    intro env K K' hK
    refine Le.bind (fun H r h => iter_loop fuel _ H r (iter_le (fun s => ih _ _ _ fun e env' => Le.refl _) fuel _ H r h)) fun r => ?_
    cases r with
    | mk e s => cases e <;> first | exact Le.refl _ | exact hK _ _
  | _ =>
    intro env K K' hK
    first | exact hK _ _ | exact Le.fail _
theorem body_le (hc:∀ f az,Le (call f az) (call' f az)) (fuel:Nat) (fn:Func) (c:Code) (args:List V):Le (bodyVc C call fuel fn c args) (bodyV C call' fn c args):=by
 unfold bodyVc bodyV
 exact Le.ite (Le.bind (runK_le hc fuel _ c _ _ _ fun _ _ => Le.refl _) fun _ => Le.refl _) (Le.refl _)
theorem fn_le (hc : ∀ f az, Le (call f az) (call' f az)) (fuel : Nat) (f : FuncId) (args : List V) : Le (fnVc C call fuel f args) (fnV C call' f args) := by
  unfold fnVc fnV
  cases C.P.funcs[f]? with
  | none => exact Le.refl _
  | some fn =>
    simp only
    cases fn.body with
    | none => exact Le.refl _
    | some c => exact Le.ite (Le.refl _) (body_le hc fuel fn c args)
theorem sem_le (fuel:Nat):∀ (n:Nat) (f:FuncId) (args:List V),Le (semC C fuel n f args) (sem C n f args)
 | 0,f,args => Le.refl _
 | n + 1,f,args => fn_le (sem_le fuel n) fuel f args
end
noncomputable def semO (C : Cfg) (ov : FuncId → (FuncId → List V → M V) → List V → Option (M V)) (fuel : Nat) : Nat → FuncId → List V → M V
  | 0 => fun _ _ => M.fail
  | n + 1 => fun f args => match ov f (semO C ov fuel n) args with
    | some m => m
    | none => fnVc C (semO C ov fuel n) fuel f args
def OvOk (C:Cfg) (fuel:Nat) (ov:FuncId → (FuncId → List V → M V) → List V → Option (M V)):Prop:=∀ f call args m,ov f call args = some m → m = fnVc C call fuel f args
theorem semO_le {C : Cfg} {fuel : Nat} {ov : FuncId → (FuncId → List V → M V) → List V → Option (M V)} (h : OvOk C fuel ov) : ∀ (n : Nat) (f : FuncId) (args : List V), Le (semO C ov fuel n f args) (sem C n f args)
  | 0,f,args => Le.refl _
  | n + 1, f, args => by
    have e : semO C ov fuel (n + 1) f args = fnVc C (semO C ov fuel n) fuel f args := by
      simp only [semO]
      split
      · rename_i m hm; exact h f _ args m hm
      · rfl
    rw [e]
    exact fn_le (semO_le h n) fuel f args
noncomputable def playsTrueO (C:Cfg) (ov:FuncId → (FuncId → List V → M V) → List V → Option (M V)) (fuel n:Nat) (f:FuncId) (args:List V):Bool:=match semO C ov fuel n f args Heap.empty with
 | some (.bool true,_) => true
 | _ => false
theorem plays_trueO {C : Cfg} {ov : FuncId → (FuncId → List V → M V) → List V → Option (M V)} {fuel n : Nat} (hov : OvOk C fuel ov) {f : FuncId} {args : List V} (h : playsTrueO C ov fuel n f args = true) : ∃ H', sem C n f args Heap.empty = some (.bool true, H') := by
  unfold playsTrueO at h
  cases e:semO C ov fuel n f args Heap.empty with
  | none => rw [e] at h; cases h
  | some x =>
    obtain ⟨v,H'⟩:=x
    rw [e] at h
    cases v with
    | bool b =>
      cases b with
      | true => exact ⟨H',semO_le hov n f args _ _ e⟩
      | false => cases h
    | _ => cases h
end Go.Fv
namespace Go.Fv.Tr
open Go Go.Fv Go.Fv.Pl Go.Proofs
variable {G:GV}
namespace Sy
variable {l m:List V} {s:St} {p:Pn} {x y z a b c d x' y' z' u v w g:V} {pr:List (List V)} {k:List V} {H H' K:Heap} {i:Nat} {pc tk ft:Int} {rep:V}
structure MP (H:Heap) (l:List V) (p:Pn) (a b c d:V):Prop where
 eq:l = [i64 p.id,.bool p.mob,a,b,c,i64 p.ev,d]
 pages:Own H a 2 (p.pages.map gpR)
 procs:Own H b 3 (p.procs.map cpR)
 ports:Own H c 4 (p.ports.map tpR)
 sems:Own H d 1 (p.sems.map intRow)
theorem MP.frame {P:Nat → Prop} (h:MP H l p a b c d) (f:Frame H H' P) (hp:∀ n ∈ lv [a,b,c,d],¬ P n):MP H' l p a b c d:=by
 have hl:∀ q ∈ [a,b,c,d],∀ n,loc q = some n → ¬ P n:=fun q hq n hn => hp n (mem_lv.2 ⟨q,hq,hn⟩)
 exact ⟨h.eq,h.pages.frame f (hl _ (by simp)),h.procs.frame f (hl _ (by simp)),h.ports.frame f (hl _ (by simp)),h.sems.frame f (hl _ (by simp))⟩
theorem flat_gps (l:List Gp):flatRows (l.map gpR) = true:=by simp [flatRows,gpR,V.flat]
theorem flat_cps (l:List Cp):flatRows (l.map cpR) = true:=by simp [flatRows,cpR,V.flat]
theorem flat_tps (l:List Tp):flatRows (l.map tpR) = true:=by simp [flatRows,tpR,V.flat]
theorem MP.thaw (h:MP H l p a b c d) (hb:p.pages.length ≤ big ∧ p.procs.length ≤ big ∧ p.ports.length ≤ big ∧ p.sems.length ≤ big):∃ l' a' b' c' d',thawV true H (.agg l) = some (.agg l') ∧ PnS l' p a' b' c' d':=by
 obtain ⟨a',e1,s1⟩:=h.pages.thaw (flat_gps _) true
 obtain ⟨b',e2,s2⟩:=h.procs.thaw (flat_cps _) true
 obtain ⟨c',e3,s3⟩:=h.ports.thaw (flat_tps _) true
 obtain ⟨d',e4,s4⟩:=h.sems.thaw (flat_ints _) true
 refine ⟨_,a',b',c',d',?_,rfl,s1,s2,s3,s4,hb⟩
 rw [h.eq]
 have i:∀ k:Int,Fv.thaw true H (i64 k) = some (i64 k):=fun k => rfl
 have ib:∀ k:Bool,Fv.thaw true H (.bool k) = some (.bool k):=fun k => rfl
 simp only [thawV,List.mapM_cons,List.mapM_nil,i,ib,e1,e2,e3,e4]
 rfl
theorem ms_store (ms:MS H l s x y z u v w g pr) (hb:StB s) {pc:Int} (hpc:0 ≤ pc ∧ pc < s.t.ps.length) {k:Nat} (hk:k < 16) (n:Int):∃ lx bk row,loc x = some lx ∧ idxV 21 x (.int .i64 pc) = some (.ptr lx pc.toNat 0) ∧ H.blk lx = some bk ∧ bk.rows[pc.toNat]? = some row ∧ H.floor ≤ lx ∧ lx < H.next ∧ k + 1 ≤ row.length ∧
  MS (H.set lx ⟨bk.sz,bk.rows.set pc.toNat (row.take k ++ [.int .u32 n] ++ row.drop (k + 1))⟩) l (setR s pc k n) x y z u v w g pr:=by
 have hlt:pc.toNat < (s.t.ps.map prRow).length:=by rw [List.length_map]; omega
 obtain ⟨lx,bk,h1,h2,h3,h4,h5⟩:=ms.ps.idx (k:=.i64) hlt
 rw [Int.toNat_of_nonneg hpc.1] at h2
 rw [List.getElem_map] at h4
 have hlt':pc.toNat < s.t.ps.length:=by omega
 have hw:=hb.wp _ (List.getElem_mem hlt')
 refine ⟨lx,bk,_,h1,h2,h3,h4,h5,ms.ps.loc_lt h1,by rw [pr_len hw]; omega,?_⟩
 have er:(setR s pc k n).t.ps.map prRow = (s.t.ps.map prRow).set pc.toNat ((prRow s.t.ps[pc.toNat]).take k ++ [.int .u32 n] ++ (prRow s.t.ps[pc.toNat]).drop (k + 1)):=by
  rw [prRow_set hw hk]
  have:=setP_rows (f:=fun q => { q with regs:=q.regs.set k n }) hlt'
  rw [Int.toNat_of_nonneg hpc.1] at this
  exact this
 obtain ⟨d1,d2⟩:=nd_ne (A:=[]) (B:=[y,z,u,v,w,g]) ms.nd h1
 have f:Frame H (H.set lx ⟨bk.sz,bk.rows.set pc.toNat ((prRow s.t.ps[pc.toNat]).take k ++ [.int .u32 n] ++ (prRow s.t.ps[pc.toNat]).drop (k + 1))⟩) (fun m => m = lx):=Frame.set _ _ rfl
 refine ⟨ms.eq,?_,ms.q.frame f (d1 _ (by simp)),ms.ts.frame f (d1 _ (by simp)),ms.up.frame f (d1 _ (by simp)),ms.sems.frame f (d1 _ (by simp)),ms.ports.frame f (d1 _ (by simp)),ms.pages.frame f (d1 _ (by simp)),ms.row.frame f d2,ms.nd⟩
 rw [er]
 exact ms.ps.put h1 h3 _
theorem do_mem (hA:BErrs G) (n:Nat) {lp ls:List V} (mp:MP K lp p a b c d) (hbp:p.pages.length ≤ big ∧ p.procs.length ≤ big ∧ p.ports.length ≤ big ∧ p.sems.length ≤ big) (ms:MS K ls s x y z u v w g pr)
  (hb:StB s) (hok:StOk p s) (hpc:0 ≤ pc ∧ pc < s.t.ps.length) (hst:(at? s.t.ps pc).map Pr.state = some 1) (htk:0 ≤ tk ∧ tk ≤ 10000) {call:Nat} (hc:call < 15) {s':St}
  (meth:∀ {H:Heap} {i:Nat} {a b c d x y z u v w g:V} {pr:List (List V)},ClX H i p s pc tk .nils 0 a b c d x y z u v w g pr → H.floor = 0 →
   Run (callV (cfg G) (sem (cfg G) (n + 10)) (39 + call) [.ptr i 0 0]) H fun r H' => r = .tuple [] ∧ Cl H i p s' pc tk .nils 0 (fp i x y z u v w g pr) H')
  (hK:K.floor ≤ K.next):Run (callV (cfg G) (sem (cfg G) (n + 11)) 10 [.agg lp,.agg ls,i64 pc,i64 (call:Nat),i64 tk]) K (NewRes K s'):=by
 obtain ⟨lp',a',b',c',d',e1,hp⟩:=mp.thaw hbp
 obtain ⟨ls',x',y',z',u',v',w',g',pr',e2,hs⟩:=ms.thaw hb
 refine Run.callOwn rfl (bs:=[.agg lp',.agg ls',i64 pc,i64 (call:Nat),i64 tk]) ?_ (by simp [hp.closedV,hs.closedV,cI]) (do_gen hA n hp hs hb hok hpc hst htk hc meth hK)
 have i:∀ k:Int,thawV true K (i64 k) = some (i64 k):=fun k => rfl
 simp only [List.mapM_cons,List.mapM_nil,e1,e2,i]
 rfl
end Sy
end Go.Fv.Tr
namespace Go.Fv.Tr
open Go Go.Fv Go.Fv.Pl Go.Proofs
variable {G:GV}
namespace Sy
variable {l m:List V} {s:St} {p:Pn} {x y z a b c d u v w g:V} {pr:List (List V)} {K:Heap} {pc tk:Int}
theorem do_signal (hA:BErrs G) (n:Nat) {lp ls:List V} (mp:MP K lp p a b c d) (hbp:p.pages.length ≤ big ∧ p.procs.length ≤ big ∧ p.ports.length ≤ big ∧ p.sems.length ≤ big) (ms:MS K ls s x y z u v w g pr)
  (hb:StB s) (hok:StOk p s) (hpc:0 ≤ pc ∧ pc < s.t.ps.length) (hc:Can s pc tk) (hl:s.sems.length = p.sems.length) (hs:∀ k ∈ s.sems,0 ≤ k ∧ k ≤ 255) (hK:K.floor ≤ K.next) :
  Run (callV (cfg G) (sem (cfg G) (n + 11)) 10 [.agg lp,.agg ls,i64 pc,i64 10,i64 tk]) K (NewRes K (doSignal p s pc)) :=
 do_mem hA n mp hbp ms hb hok hpc hc.run hc.tk (call:=10) (by decide) (fun h hf => signal_run hA n h hf hc hl hs) hK
theorem do_take (hA:BErrs G) (n:Nat) {lp ls:List V} (mp:MP K lp p a b c d) (hbp:p.pages.length ≤ big ∧ p.procs.length ≤ big ∧ p.ports.length ≤ big ∧ p.sems.length ≤ big) (ms:MS K ls s x y z u v w g pr)
  (hb:StB s) (hok:StOk p s) (hpc:0 ≤ pc ∧ pc < s.t.ps.length) (hc:Can s pc tk) (hl:s.sems.length = p.sems.length) (hs:∀ k ∈ s.sems,0 ≤ k ∧ k ≤ 255) (hK:K.floor ≤ K.next) :
  Run (callV (cfg G) (sem (cfg G) (n + 11)) 10 [.agg lp,.agg ls,i64 pc,i64 11,i64 tk]) K (NewRes K (doTake p s pc tk)) :=
 do_mem hA n mp hbp ms hb hok hpc hc.run hc.tk (call:=11) (by decide) (fun h hf => take_run hA n h hf hc hl hs) hK
theorem tabOk_wait {wk o:Int} (hc:Can s pc tk) (hwk:2 ≤ wk ∧ wk ≤ 4) (ho:0 ≤ o) (hto:timeOk (regAt s pc 2)):TabOk (doWait s pc tk wk o).t:=by
 obtain ⟨q,h1,h2⟩:=Option.map_eq_some_iff.1 hc.run
 obtain ⟨r0,r1⟩:=hc.reg 2 (by decide)
 have htk:=hc.tk
 unfold doWait
 split
 ·exact tabOk_setR hc.ok h1 (by decide) _
 ·rename_i h0
  refine hc.block ?_
  split
  ·exact ⟨by omega,ho,fun g => by omega,by omega,by omega⟩
  ·rename_i h3
   have hle:regAt s pc 2 ≤ 1000000:=hto.resolve_right h3
   exact ⟨by omega,ho,fun g => by omega,by omega,by omega⟩
theorem tabOk_take (hc:Can s pc tk):TabOk (doTake p s pc tk).t:=by
 obtain ⟨q,h1,h2⟩:=Option.map_eq_some_iff.1 hc.run
 have hr:=hc.reg 1 (by decide)
 unfold doTake
 split
 ·split
  ·rename_i hto
   split
   ·exact tabOk_setR (s:={ s with sems:=_ }) hc.ok h1 (by decide) _
   ·exact tabOk_wait hc (by decide) hr.1 hto
  ·exact tabOk_setR hc.ok h1 (by decide) _
 ·exact tabOk_setR hc.ok h1 (by decide) _
def RgOk (ps:List Pr):Prop:=∀ q ∈ ps,∀ r ∈ q.regs,RegOk r
theorem RgOk.setP {ps:List Pr} (h:RgOk ps) {n:Int} {f:Pr → Pr} (hf:∀ q ∈ ps,∀ r ∈ (f q).regs,RegOk r):RgOk (setP ps n f):=fun q hq => by
 obtain ⟨i,hi⟩:=List.mem_iff_getElem?.1 hq
 unfold Pl.setP at hi
 rw [List.getElem?_modify] at hi
 obtain ⟨q0,h0,h1⟩:=Option.map_eq_some_iff.1 hi
 have hm:q0 ∈ ps:=List.mem_iff_getElem?.2 ⟨i,h0⟩
 split at h1
 ·subst h1
  exact hf q0 hm
 ·subst h1
  exact h q0 hm
theorem RgOk.setR {s:St} (h:RgOk s.t.ps) {k:Nat} {n:Int} (hn:RegOk n):RgOk (setR s pc k n).t.ps:=h.setP fun q hq r hr => (List.mem_or_eq_of_mem_set hr).elim (h q hq r) fun e => e ▸ hn
theorem RgOk.reg {s : St} (h : RgOk s.t.ps) (k : Nat) : RegOk (regAt s pc k) := by
  unfold regAt
  cases h1:at? s.t.ps pc with
  | none => exact (show RegOk 0 from ⟨by decide,by decide⟩)
  | some q =>
    have hm : q ∈ s.t.ps := by
      unfold at? at h1
      split at h1
      · exact List.mem_iff_getElem?.2 ⟨_,h1⟩
      · cases h1
    show RegOk ((q.regs[k]?).getD 0)
    cases h2:q.regs[k]? with
    | none => exact (show RegOk 0 from ⟨by decide,by decide⟩)
    | some r => exact h q hm r (List.mem_iff_getElem?.2 ⟨_,h2⟩)
theorem RgOk.wait {wk o:Int} (h:RgOk s.t.ps):RgOk (doWait s pc tk wk o).t.ps:=by
 unfold doWait
 split
 ·exact h.setR ⟨by omega,by omega⟩
 ·exact RgOk.setP (f:=blockP wk o) h fun q hq r hr => h q hq r hr
theorem RgOk.take (h:RgOk s.t.ps):RgOk (doTake p s pc tk).t.ps:=by
 unfold doTake
 split
 ·split
  ·split
   ·exact RgOk.setR (s:={ s with sems:=_ }) h ⟨by omega,by omega⟩
   ·exact h.wait
  ·exact h.setR ⟨by omega,by omega⟩
 ·exact h.setR ⟨by omega,by omega⟩
end Sy
end Go.Fv.Tr
namespace Go.Fv.Tr
open Go Go.Fv Go.Fv.Pl Go.Proofs
variable {G:GV}
namespace Sy
def Z16:List Int:=[0,0,0,0,0,0,0,0,0,0,0,0,0,0,0,0]
def sX (r0 r1:List Int) (st0 w0:Int) (q:List Int) (ts:List Tm) (up:Bool):St:=⟨0,0,0,⟨[⟨r0,0,st0,5,w0,0⟩,⟨r1,0,1,5,0,0⟩],q,ts⟩,[up],[0],[⟨[],0⟩,⟨[],0⟩],[⟨7,false,List.replicate 64 0⟩]⟩
structure Rg (r:List Int):Prop where
 len:r.length = 16
 z:r[0]? = some 0
 ok:∀ n ∈ r,RegOk n
theorem Rg.zero:Rg Z16:=⟨rfl,rfl,fun n hn => by
 have:n = 0:=by simpa [Z16] using hn
 subst this
 unfold RegOk
 omega⟩
theorem Rg.set {r:List Int} (h:Rg r) {k:Nat} (hk:k ≠ 0) {n:Int} (hn:RegOk n):Rg (r.set k n):=⟨by simp [h.len],by rw [List.getElem?_set_ne hk]; exact h.z,fun m hm => by
 rcases List.mem_or_eq_of_mem_set hm with h' | rfl
 ·exact h.ok m h'
 ·exact hn⟩
variable {r0 r1:List Int} {st0 w0:Int} {q:List Int} {ts:List Tm} {up:Bool}
theorem q10:QOk (sX r0 r1 1 0 [1,0] ts up).t.ps [1,0]:=⟨fun n hn => by
  simp only [List.mem_cons,List.not_mem_nil,or_false] at hn
  rcases hn with rfl | rfl <;> rfl,by decide,fun i hi _ => by
  have:i = 0 ∨ i = 1:=by have h2:i < 2:=hi; omega
  rcases this with rfl | rfl <;> decide⟩
theorem q1:QOk (sX r0 r1 2 2 [1] ts up).t.ps [1]:=⟨fun n hn => by
  rw [List.mem_singleton] at hn
  subst hn
  rfl,by decide,fun i hi hr => by
  have:i = 0 ∨ i = 1:=by have h2:i < 2:=hi; omega
  rcases this with rfl | rfl
  ·have:some (2:Int) = some 1:=hr
   cases this
  ·decide⟩
end Sy
end Go.Fv.Tr
