/-
  The law SysMessages, run to its end. By an AI agent; no person has read it.
-/
import Derived.Test.YtekncgjkocgioaaGreatDoorFvP21
import Derived.Test.YtekncgjkocgioaaGreatDoorFvP43
set_option linter.unusedVariables false
set_option linter.unusedSimpArgs false
set_option linter.unusedSectionVars false
/-! The law SysMessages, run to its end. -/
namespace Go.Fv.Tr
open Go Go.Fv Go.Fv.Pl Go.Proofs
variable {G:GV}
namespace Sy
variable {r0 r1:List Int} {i o:List ByteArray} {pgs:List Pa} {p:Pn} {s:St} {x y z a b c d u v w g:V} {pr:List (List V)} {H H' K:Heap} {L0 L1 Lr:Nat}
theorem Lc.swap (h : Lc H L0 L1 pS (sM r0 r1 i o pgs) a b c d x y z u v w g pr) : ∃ lw bw m0 m1, idxV 2 w (.int .i64 0) = some (.ptr lw 0 0) ∧ idxV 2 w (.int .i64 1) = some (.ptr lw 1 0) ∧ H.blk lw = some bw ∧ bw.rows[0]? = some [m0, i64 0] ∧ bw.rows[1]? = some [m1, i64 0] ∧ Own H m1 1 (o.map stR) ∧ H.floor ≤ lw ∧ lw ≠ L0 ∧ lw ≠ L1 ∧ lw ∈ lv [x, y, z, u, v, w, g] ++ lr pr ∧
    ∃ pr',Lc (H.set lw ⟨bw.sz,(bw.rows.set 0 [m1,i64 0]).set 1 [.nils,i64 0]⟩) L0 L1 pS (sM r0 r1 o [] pgs) a b c d x y z u v w g pr' ∧ ∀ t ∈ lr pr',t ∈ lr pr:=by
  obtain ⟨lw,bw,m0,w1,w2,w3,w4,w5,w6,om0,w7,w8,w9,w10,w11⟩:=h.port (n:=0) (q:=⟨i,0⟩) rfl
  obtain ⟨lw',bw',m1,v1,v2,v3,v4,v5,v6,om1,v7,v8,v9,v10,v11⟩:=h.port (n:=1) (q:=⟨o,0⟩) rfl
  have el:lw' = lw:=Option.some.inj (v1.symm.trans w1)
  subst el
  have eb:bw' = bw:=Option.some.inj (v3.symm.trans w3)
  subst eb
  have ms:=h.ms
  have epr : pr = [[m0, i64 0], [m1, i64 0]] := by
    have hl:=ms.row.len
    match pr,hl,w6,v6 with
    | [q0, q1], _, e0, e1 =>
      have e0:some q0 = some [m0,i64 0]:=e0
      have e1:some q1 = some [m1,i64 0]:=e1
      rw [Option.some.inj e0,Option.some.inj e1]
  subst epr
  have hb':(H.set lw' ⟨bw'.sz,bw'.rows.set 0 [m1,i64 0]⟩).blk lw' = some ⟨bw'.sz,bw'.rows.set 0 [m1,i64 0]⟩:=by rw [Heap.set_blk,if_pos rfl]
  have hp2:=(ms.ports.put (i:=0) w1 w3 [m1,i64 0]).put (i:=1) w1 hb' [.nils,i64 0]
  rw [set_set] at hp2
  have hp2':Own (H.set lw' ⟨bw'.sz,(bw'.rows.set 0 [m1,i64 0]).set 1 [.nils,i64 0]⟩) w 2 [[m1,i64 0],[.nils,i64 0]]:=hp2
  have f:Frame H (H.set lw' ⟨bw'.sz,(bw'.rows.set 0 [m1,i64 0]).set 1 [.nils,i64 0]⟩) (fun t => t = lw'):=Frame.set _ _ rfl
  obtain ⟨d1,d2⟩:=nd_ne (A:=[x,y,z,u,v]) (B:=[g]) ms.nd w1
  have e1 : lr [[m0, i64 0], [m1, i64 0]] = (loc m0).toList ++ (loc m1).toList := by
    rw [lr_cons,lr_cons]
    exact congrArg _ (List.append_nil _)
  have e2 : lr [[m1, i64 0], [.nils, i64 0]] = (loc m1).toList := by
    rw [lr_cons,lr_cons]
    exact List.append_nil _
  have sub : ∀ t ∈ lr [[m1, i64 0], [.nils, i64 0]], t ∈ lr [[m0, i64 0], [m1, i64 0]] := fun t ht => by
    rw [e1]
    rw [e2] at ht
    exact List.mem_append_right _ ht
  refine ⟨lw',bw',m0,m1,w2,v2,w3,w4,v4,om1,w7,w8,w9,w11,[[m1,i64 0],[.nils,i64 0]],⟨h.fl,by rw [Heap.set_blk,if_neg (Ne.symm w8)]; exact h.b0,by rw [Heap.set_blk,if_neg (Ne.symm w9)]; exact h.b1,h.lt,h.mp.frame f fun t ht e => (h.m1 lw' w11).2.2 (e ▸ ht),⟨rfl,ms.ps.frame f (d1 _ (by simp)),ms.q.frame f (d1 _ (by simp)),ms.ts.frame f (d1 _ (by simp)),ms.up.frame f (d1 _ (by simp)),ms.sems.frame f (d1 _ (by simp)),hp2',ms.pages.frame f (d1 _ (by simp)),?_,?_⟩,h.m0,fun t ht => ?_⟩,sub⟩
  · obtain ⟨mv,er,ho,hl⟩:=ms.row.row 1 (by simp)
    have er:[m1,i64 0] = [mv,i64 0]:=er
    have em:mv = m1:=by injection er with e; exact e.symm
    subst em
    refine .cons ⟨mv,rfl,om1.frame f fun t ht e => ?_,hl⟩ (.cons ⟨.nils,rfl,Own.nils _ _,by decide⟩ .nil)
    exact d2 t (by rw [e1,ht]; simp) e
  · refine List.Nodup.sublist ?_ ms.nd
    rw [e1,e2]
    exact (List.sublist_append_right _ _).append_left _
  · rcases List.mem_append.1 ht with ht | ht
    · exact h.m1 t (List.mem_append_left _ ht)
    · exact h.m1 t (List.mem_append_right _ (sub t ht))
set_option maxRecDepth 20000 in
set_option maxHeartbeats 4000000 in
theorem turn_runM (hA:BErrs G) (lc:Lc H L0 L1 pS (sM r0 r1 [] o pgs) a b c d x y z u v w g pr) (hr0:Rg r0) (hr1:Rg r1) (ho:MsOk o) (hp:PgOk pgs) (a0:Int) {td:List UInt8} (htd:td.length ≤ 4) {n N:Nat} (hn:n < N) (hN:N ≤ room) :
  Run (ferry_ferrylaw12_SysMessages_j2 G (sem (cfg G) 13) (.ptr L1 0 0) (i64 a0) [.bool false,i64 (n:Nat)] (.ptr L0 0 0) (.str (bs td))) H fun r H' => r = (.normal,[.bool false,i64 ((n + 1:Nat):Int)]) ∧ Be L0 L1 H':=by
 simp only [ferry_ferrylaw12_SysMessages_j2]
 obtain ⟨m,hm,wv,c1,c2⟩:=and31 a0
 have hb1:=lc.b1
 have hrm:room = 140737488355328:=rfl
 have hK:H.floor ≤ H.next:=by rw [lc.fl]; exact Nat.zero_le _
 (repeat' (first | (simp only [wp,extractV,w0,reduceIte,Nat.reduceAdd,Nat.reduceLT,Nat.reduceLeDiff,Nat.reduceEqDiff,hb1,c1,c2]) | (with_reducible ((first | apply xC | apply xG | apply xQ) <;> intro hb <;> try simp only [hb]))))
 obtain ⟨yy,er,hs⟩:=thawV_at (K:=H) lc.ms.pages (flat_pas _) fun _ _ => rfl
 refine Run.callOwn rfl (bs:=[yy,.int .u32 ((m:Nat):Int),.str (bs td)]) (by simp only [List.mapM_cons,List.mapM_nil,er]; rfl) (by simp only [List.all_cons,List.all_nil,hs.closedV]; rfl) ((in_run (ps:=pgs) 10 hs (by rw [hp.len]; omega) hp.data (by omega) (by omega) hK).mono fun _ H1 ⟨g',er2,hnew⟩ => ?_)
 subst er2
 rw [(span0 hp (show m + td.length ≤ 64 by omega)).1] at hnew ⊢
 rw [if_pos rfl] at hnew
 obtain ⟨og,f1,lg⟩:=hnew
 have hb1':=(f1.old L1 lc.lt.2.1 id).trans hb1
 have fl1:H1.floor ≤ L1:=by rw [f1.floor,lc.fl]; exact Nat.zero_le _
 have cz:convI .u32 (i64 (td.length:Nat)) = some (.int .u32 (td.length:Nat)):=conv_u32a (by omega) (by omega)
 (repeat' (first | (simp only [wp,extractV,w0,reduceIte,Nat.reduceAdd,Nat.reduceLT,Nat.reduceLeDiff,Nat.reduceEqDiff,hb1',fl1,c1,c2,str_len,cz,beq_self_eq_true,og.cells]) | (with_reducible ((first | apply xC | apply xG | apply xQ) <;> intro hb <;> try simp only [hb]))))
 have lcp:Lc (H1.set L1 ⟨10,[[i64 0,i64 0,i64 0,x,y,z,u,v,w,g']]⟩) L0 L1 pS (sM r0 r1 [] o (inP pgs m td)) a b c d x y z u v w g' pr:=(lc.frame f1 id id (fun _ _ => id) fun _ _ => id).pages og fun t ht => by
  have h1:=lg t ht
  have h2:=lc.lt
  exact ⟨by omega,by omega,fun hm => by have:=(lc.m0 t hm).2.2; omega,fun hm => by have:=lc.ms.lt hm; omega⟩
 have hp2:PgOk (inP pgs m td):=inP_ok hp
 have hout:outP (inP pgs m td) m td.length = td:=out_in hp (by omega)
 generalize inP pgs m td = pg2 at *
 refine Run.gen (P:=fun K => Lc K L0 L1 pS (sM r0 r1 [] o pg2) a b c d x y z u v w g' pr) lcp fun K lc1 => ?_
 clear lcp hb1 hb1' hK
 have hi:MsOk []:=⟨by decide,fun _ h => by cases h⟩
 have hB:=sM_b hr0 hr1 hi ho hp2
 have hb1:=lc1.b1
 have hb0:=lc1.b0
 obtain ⟨lx,bk,q1,q2,q3,g1,g2,g3,g4,g5,g6,g7,g8,g9,l1,l2,e1,e2,e3,lc2⟩:=lc1.regs3 hB (q:=0) (p0:=⟨r0,0,1,5,0,0⟩) rfl (i:=1) (j:=2) (k:=3) (by decide) (by decide) (by decide) 1 (m:Nat) (td.length:Nat)
 have g1':idxV 21 x (.int .i64 0) = some (.ptr lx 0 0):=g1
 have g3':bk.rows[0]? = some (prRow ⟨r0,0,1,5,0,0⟩):=g3
 have g5':0 < bk.rows.length:=g5
 have ha1:aidxV 16 1 (.ptr lx 0 0) (.int .i64 1) = some (.ptr lx 0 1):=aidx16 (n:=1) (by decide)
 have ha2:aidxV 16 1 (.ptr lx 0 0) (.int .i64 2) = some (.ptr lx 0 2):=aidx16 (n:=2) (by decide)
 have ha3:aidxV 16 1 (.ptr lx 0 0) (.int .i64 3) = some (.ptr lx 0 3):=aidx16 (n:=3) (by decide)
 have n1:decide (L1 ≠ lx) = true:=by simpa using Ne.symm g8
 have n2:¬ (L1 = lx):=Ne.symm g8
 have n3:¬ (L0 = lx):=Ne.symm g7
 have k1:(bk.rows.set 0 q1)[0]? = some q1:=List.getElem?_set_self g5'
 have k2:(bk.rows.set 0 q2)[0]? = some q2:=List.getElem?_set_self g5'
 obtain ⟨lw,bw,mv,w1,w2,w3,w4,w5,w6,om,w7,w8,w9,w10,w11⟩:=lc1.port (n:=1) (q:=⟨o,0⟩) rfl
 have w2':idxV 2 w (.int .i64 1) = some (.ptr lw 1 0):=w2
 obtain ⟨lx',_,hx1,hx2,_⟩:=lc1.at (q:=0) (p0:=⟨r0,0,1,5,0,0⟩) rfl
 have ex:lx' = lx:=by
  have:=hx2.symm.trans g1
  simp only [Option.some.injEq,V.ptr.injEq] at this
  exact this.1
 subst ex
 obtain ⟨dd,_⟩:=nd_ne (A:=[x,y,z,u,v]) (B:=[g']) lc1.ms.nd w1
 have n4:¬ (lw = lx'):=fun e => dd x (by simp) lx' hx1 e.symm
 have hl:=om.len
 rw [List.length_map] at hl
 (repeat' (first | (simp only [wp,extractV,w0,reduceIte,Nat.reduceAdd,Nat.reduceLT,Nat.reduceLeDiff,Nat.reduceEqDiff,hb0,hb1,g1',g2,g3',g4,g6,ha1,ha2,ha3,apartV,n1,n2,n3,n4,e1,e2,e3,l1,l2,k1,k2,List.set_set,w2',w3,w4,hl]) | (with_reducible ((first | apply xC | apply xG | apply xQ) <;> intro hb <;> try simp only [hb]))))
 rw [set_set,set_set]
 have lc2':Lc (K.set lx' ⟨bk.sz,bk.rows.set 0 q3⟩) L0 L1 pS (sM (((r0.set 1 1).set 2 (m:Nat)).set 3 (td.length:Nat)) r1 [] o pg2) a b c d x y z u v w g' pr:=lc2
 clear lc2
 have ra:Rg (r0.set 1 1):=hr0.set (k:=1) (n:=1) (by decide) ⟨by omega,by omega⟩
 have rb:Rg ((r0.set 1 1).set 2 (m:Nat)):=ra.set (k:=2) (n:=(m:Nat)) (by decide) ⟨by omega,by omega⟩
 have rc:Rg (((r0.set 1 1).set 2 (m:Nat)).set 3 (td.length:Nat)):=rb.set (k:=3) (n:=(td.length:Nat)) (by decide) ⟨by omega,by omega⟩
 have v1:(((r0.set 1 1).set 2 (m:Nat)).set 3 (td.length:Nat))[1]? = some 1:=by rw [List.getElem?_set_ne (by decide),List.getElem?_set_ne (by decide)]; exact reg_set hr0 (by decide) 1
 have v2:(((r0.set 1 1).set 2 (m:Nat)).set 3 (td.length:Nat))[2]? = some ((m:Nat):Int):=by rw [List.getElem?_set_ne (by decide)]; exact reg_set ra (by decide) _
 have v3:(((r0.set 1 1).set 2 (m:Nat)).set 3 (td.length:Nat))[3]? = some ((td.length:Nat):Int):=reg_set rb (by decide) _
 generalize ((r0.set 1 1).set 2 (m:Nat)).set 3 (td.length:Nat) = r2 at *
 refine Run.gen (P:=fun K => Lc K L0 L1 pS (sM r2 r1 [] o pg2) a b c d x y z u v w g' pr) lc2' fun K lc3 => ?_
 have hK:K.floor ≤ K.next:=by rw [lc3.fl]; exact Nat.zero_le _
 refine (do_writeM hA 2 lc3.mp lc3.ms rc hr1 hi ho hp2 v1 v2 v3 htd (by omega) hK).mono fun _ K2 ⟨l2',x2,y2,z2,u2,v2',w2_,g2_,pr2,er3,ms2,f2,hge2⟩ => ?_
 subst er3
 have el2:=ms2.eq
 subst el2
 have fk2:K2.floor = 0:=f2.floor.trans lc3.fl
 have nx2:=f2.next
 have nlt:=lc3.lt
 have c1':¬ (K2.next = L1):=by omega
 have c2':¬ (L1 = K2.next):=by omega
 have c3':K2.floor ≤ K2.next:=by omega
 have c4':K2.floor ≤ L1:=by omega
 have hb2:=(f2.old L1 nlt.2.1 id).trans lc3.b1
 obtain ⟨r3,o3,eW,hr3,ho3,hans⟩:∃ r3 o3,wroteM r2 r1 [] o pg2 m td.length = sM r3 r1 [] o3 pg2 ∧ Rg r3 ∧ MsOk o3 ∧ (o.length < 2 ∧ r3[1]? = some 0 ∧ o3 = o ++ [bs td] ∨ o.length = 2 ∧ r3[1]? = some 4294967293 ∧ o3 = o):=by
  unfold wroteM
  by_cases h:o.length < 2
  ·rw [if_pos h,hout]
   refine ⟨_,_,rfl,rc.set (k:=1) (n:=0) (by decide) ⟨by omega,by omega⟩,⟨by simp; omega,fun t ht => ?_⟩,.inl ⟨h,reg_set rc (by decide) 0,rfl⟩⟩
   rcases List.mem_append.1 ht with ht | ht
   ·exact ho.sz t ht
   ·rw [List.mem_singleton] at ht
    subst ht
    rw [bs_size]
    exact htd
  ·rw [if_neg h]
   have:=ho.len
   exact ⟨_,_,rfl,rc.set (k:=1) (n:=4294967293) (by decide) ⟨by omega,by omega⟩,ho,.inr ⟨by omega,reg_set rc (by decide) _,rfl⟩⟩
 rw [eW] at ms2 ⊢
 have hlx:lenV x2 = some (i64 2):=ms2.ps.len
 have hlw:lenV w2_ = some (i64 2):=by
  have:=ms2.ports.len
  rw [ms2.row.len] at this
  exact this
 (repeat' (first | (simp only [wp,extractV,w0,reduceIte,Nat.reduceAdd,Nat.reduceLT,Nat.reduceLeDiff,Nat.reduceEqDiff,eq_nili,hlx,hlw,c1',c2',c3',c4',hb2,beq_self_eq_true]) | (with_reducible ((first | apply xC | apply xG | apply xQ) <;> intro hb <;> try simp only [hb]))))
 refine Run.gen (P:=fun K => Lc K L0 L1 pS (sM r3 r1 [] o3 pg2) a b c d x2 y2 z2 u2 v2' w2_ g2_ pr2 ∧ Bx K K2.next L0 L1 (lv [a,b,c,d]) (lv [x2,y2,z2,u2,v2',w2_,g2_] ++ lr pr2)) ⟨lc3.next f2 ms2 hge2 rfl (Nat.le_succ _) ?_ ?_,Nat.lt_succ_self _,by omega,c1',fun hm => ?_,fun hm => ?_,[i64 (sM r3 r1 [] o3 pg2).id,i64 (sM r3 r1 [] o3 pg2).fr,i64 (sM r3 r1 [] o3 pg2).ep,x2,y2,z2,u2,v2',w2_,g2_,V.nils,i64 0],?_,rfl⟩ fun K3 ⟨lc4,bx4⟩ => ?_
 ·rw [Heap.set_blk,if_pos rfl]
 ·intro q' h1 h2
  have h3:¬ (q' = K2.next):=by omega
  simp only [Heap.set_blk,Heap.add_blk,if_neg h2,if_neg h3]
 ·have:=(lc3.m0 _ hm).2.2
  omega
 ·have:=ms2.lt hm
  omega
 ·rw [Heap.set_blk,if_neg c1',Heap.set_blk,if_pos rfl]
 generalize K2.next = Lr at *
 have hb4:=lc4.b1
 obtain ⟨ly,bk2,y1,y2',y3,y4,y5⟩:=lc4.at (q:=0) (p0:=⟨r3,0,1,5,0,0⟩) rfl
 have y2'':idxV 21 x2 (.int .i64 0) = some (.ptr ly 0 0):=y2'
 have y4':bk2.rows[0]? = some (prRow ⟨r3,0,1,5,0,0⟩):=y4
 have hb1':aidxV 16 1 (.ptr ly 0 0) (.int .i64 1) = some (.ptr ly 0 1):=aidx16 (n:=1) (by decide)
 have hrg:=prRow_reg (q:=⟨r3,0,1,5,0,0⟩) hr3.len (n:=1) (by decide)
 obtain ⟨lw3,bw3,m0,m1,s0,s1,s2,s3,s4,om1,s5,s6,s7,s8,pr3,lc5,hsub⟩:=lc4.swap
 have hl1:=om1.len
 rw [List.length_map] at hl1
 rcases hans with ⟨h1,h2,h3⟩ | ⟨h1,h2,h3⟩
 ·have hrg':(prRow ⟨r3,0,1,5,0,0⟩)[1]? = some (.int .u32 0):=by rw [hrg,h2]; rfl
  have d1:(((o.length:Nat):Int) == 2) = false:=by rw [beq_eq_false_iff_ne]; omega
  have d2:decide (((o.length:Nat):Int) < 2) = true:=by rw [decide_eq_true_eq]; omega
  have ad:arithV .add (i64 ((o.length:Nat):Int)) (i64 1) = some (i64 ((o.length + 1:Nat):Int)):=addN (N:=2) h1 (by decide)
  subst h3
  rw [show (o ++ [bs td]).length = o.length + 1 by simp] at hl1
  obtain ⟨lm,bm,i1,i2,i3,i4,i5⟩:=om1.idx (k:=.i64) (i:=o.length) (by simp)
  have i4':bm.rows[o.length]? = some [.str (bs td)]:=by
   rw [i4]
   simp [stR]
  have es:eqV (.sc .str) false (.str (bs td)) (.str (bs td)) = some true:=by rw [str_eq,beq_self_eq_true]
  (repeat' (first | (simp only [wp,extractV,w0,reduceIte,Nat.reduceAdd,Nat.reduceLT,Nat.reduceLeDiff,Nat.reduceEqDiff,hb4,y2'',y3,y4',hb1',hrg',s1,s2,s4,hl1,d1,d2,ad,i2,i3,i4',es,beq_self_eq_true]) | (with_reducible ((first | apply xC | apply xG | apply xQ) <;> intro hb <;> try simp only [hb]))))
  exact tail_runM hA ⟨r3,r1,[],_,pg2,a,b,c,d,x2,y2,z2,u2,v2',w2_,g2_,pr2,lc4,bx4,hr3,hr1,hi,ho3,hp2,by decide⟩ hn hN
 ·have hrg':(prRow ⟨r3,0,1,5,0,0⟩)[1]? = some (.int .u32 4294967293):=by rw [hrg,h2]; rfl
  have d1:(((o.length:Nat):Int) == 2) = true:=by rw [beq_iff_eq]; omega
  have d2:decide (((o.length:Nat):Int) < 2) = false:=by rw [decide_eq_false_iff_not]; omega
  subst h3
  have k3:(bw3.rows.set 0 [m1,i64 0])[1]? = some [m1,i64 0]:=by rw [List.getElem?_set_ne (by decide)]; exact s4
  have n5:¬ (L1 = lw3):=Ne.symm s7
  (repeat' (first | (simp only [wp,extractV,w0,reduceIte,Nat.reduceAdd,Nat.reduceLT,Nat.reduceLeDiff,Nat.reduceEqDiff,hb4,y2'',y3,y4',hb1',hrg',s0,s1,s2,s3,s4,s5,hl1,d1,d2,n5,k3,om1.cells,beq_self_eq_true]) | (with_reducible ((first | apply xC | apply xG | apply xQ) <;> intro hb <;> try simp only [hb]))))
  rw [set_set]
  have hno:MsOk ([]:List ByteArray):=hi
  exact tail_runM hA ⟨r3,r1,_,[],pg2,a,b,c,d,x2,y2,z2,u2,v2',w2_,g2_,pr3,lc5,⟨bx4.lt,bx4.n0,bx4.n1,bx4.na,fun hm => bx4.nb (by
   rcases List.mem_append.1 hm with hm | hm
   ·exact List.mem_append_left _ hm
   ·exact List.mem_append_right _ (hsub _ hm)),by
   obtain ⟨w12,e4,e5⟩:=bx4.row
   refine ⟨w12,?_,e5⟩
   rw [Heap.set_blk,if_neg fun e:Lr = lw3 => bx4.nb (e ▸ s8)]
   exact e4⟩,hr3,hr1,ho,hi,hp2,ho.len⟩ hn hN
theorem slS_take4 {l:List UInt8} (h:4 < l.length):slS (.str (bs l)) none (some (.int .i64 4)) = some (.str (bs (l.take 4))):=by
 have e:(bs l).extract 0 4 = bs (l.take 4):=by
  apply ByteArray.ext
  simp [bs,ByteArray.data_extract]
 have h4:4 ≤ (bs l).size:=by rw [bs_size]; omega
 simp only [slS,optNat,natOf,Option.bind_some]
 rw [if_pos (show (0:Int) ≤ 4 by decide)]
 simp only [Option.bind_some]
 rw [if_pos ⟨Nat.zero_le _,h4⟩]
 exact congrArg some (congrArg V.str e)
set_option maxRecDepth 20000 in
set_option maxHeartbeats 4000000 in
theorem loop_runM (hA:BErrs G) (h0:Be L0 L1 H) {X:V} {sc:List ByteArray} (hX:Sls X 1 (sc.map stR)) (hsc:sc.length ≤ room) (hsz:∀ t ∈ sc,t.size ≤ big) (a0:Int) {Q:R → Heap → Prop} (q:∀ r H',Q (.exit 0,r) H') :
  Run (loopV (ferry_ferrylaw12_SysMessages_l1 G (sem (cfg G) 13) X (.ptr L1 0 0) (i64 a0) (.ptr L0 0 0)) [.bool false,i64 0]) H Q:=by
 refine Run.loop (N:=sc.length) (fun n r H' => r = [.bool false,i64 ((n:Nat):Int)] ∧ Be L0 L1 H') ⟨rfl,h0⟩ ?_
 rintro n r H hn ⟨rfl,r0,r1,o,pgs,a,b,c,d,x,y,z,u,v,w,g,pr,lc,hr0,hr1,ho,hp⟩
 simp only [ferry_ferrylaw12_SysMessages_l1]
 have hXl:=hX.len
 rw [List.length_map] at hXl
 by_cases hlt:n < sc.length
 ·have l1:decide (((n:Nat):Int) < ((sc.length:Nat):Int)) = true:=by rw [decide_eq_true_eq]; omega
  have hix:=hX.idx (k:=.i64) (i:=n) (by rw [List.length_map]; exact hlt)
  rw [List.getElem_map] at hix
  have hs:=hsz _ (List.getElem_mem hlt)
  have fin:∀ (td:List UInt8),td.length ≤ 4 → Run (ferry_ferrylaw12_SysMessages_j2 G (sem (cfg G) 13) (.ptr L1 0 0) (i64 a0) [.bool false,i64 (n:Nat)] (.ptr L0 0 0) (.str (bs td))) H (Stp (fun s' H' => n < sc.length ∧ s' = [.bool false,i64 ((n + 1:Nat):Int)] ∧ Be L0 L1 H') Q):=fun td htd =>
   (turn_runM hA lc hr0 hr1 ho hp a0 htd hlt hsc).mono fun r H' ⟨e,hB⟩ => by
    subst e
    exact ⟨hlt,rfl,hB⟩
  generalize sc[n] = t at *
  have et:V.str t = .str (bs t.data.toList):=by rw [bs_toList]
  have es:t.data.toList.length = t.size:=by
   have:=bs_size t.data.toList
   rw [bs_toList] at this
   exact this.symm
  by_cases h4:4 < t.size
  ·have d4:decide ((4:Int) < ((t.size:Nat):Int)) = true:=by rw [decide_eq_true_eq]; omega
   have hsl:=slS_take4 (l:=t.data.toList) (by omega)
   rw [← et] at hsl
   (repeat' (first | (simp only [wp,extractV,w0,reduceIte,Nat.reduceAdd,Nat.reduceLT,Nat.reduceLeDiff,Nat.reduceEqDiff,hXl,l1,hix,stR,lenS_str,d4,hsl]) | (with_reducible ((first | apply xC | apply xG | apply xQ) <;> intro hb <;> try simp only [hb]))))
   exact fin _ (by rw [List.length_take]; omega)
  ·have d4:decide ((4:Int) < ((t.size:Nat):Int)) = false:=by rw [decide_eq_false_iff_not]; omega
   (repeat' (first | (simp only [wp,extractV,w0,reduceIte,Nat.reduceAdd,Nat.reduceLT,Nat.reduceLeDiff,Nat.reduceEqDiff,hXl,l1,hix,stR,lenS_str,d4]) | (with_reducible ((first | apply xC | apply xG | apply xQ) <;> intro hb <;> try simp only [hb]))))
   rw [et]
   exact fin _ (by omega)
 ·have l1:decide (((n:Nat):Int) < ((sc.length:Nat):Int)) = false:=by rw [decide_eq_false_iff_not]; omega
  (repeat' (first | (simp only [wp,extractV,w0,reduceIte,Nat.reduceAdd,Nat.reduceLT,Nat.reduceLeDiff,Nat.reduceEqDiff,hXl,l1]) | (with_reducible ((first | apply xC | apply xG | apply xQ) <;> intro hb <;> try simp only [hb]))))
  exact q _ _
set_option maxRecDepth 20000 in
set_option maxHeartbeats 4000000 in
theorem messages_run (hA:BErrs G) (hk:callV (cfg G) (sem (cfg G) 13) 8 [] = M.ret (.bool true)) {X:V} {sc:List ByteArray} (hX:Sls X 1 (sc.map stR)) (hsc:sc.length ≤ room) (hsz:∀ t ∈ sc,t.size ≤ big) (a0:Int) :
  Run (sem (cfg G) 14 4 [X,i64 a0]) Heap.empty fun v _ => v = .bool true:=by
 rw [ferry_ferrylaw12_SysMessages_eq]
 simp only [ferry_ferrylaw12_SysMessages]
 (repeat' (first | (simp only [wp,extractV,w0,reduceIte,Nat.reduceAdd,Nat.reduceLT,Nat.reduceLeDiff,Nat.reduceEqDiff,hk]) | (with_reducible ((first | apply xC | apply xG | apply xQ) <;> intro hb <;> try simp only [hb]))))
 refine (small_new (Nat.le_refl _)).mono fun r H1 ⟨M,lp,a,b,c,d,ls,x,y,z,u,v,w,g,pr,er,mp,ms,f1,hlp,hls⟩ => ?_
 subst er
 have em:=mp.eq
 have es:=ms.eq
 subst em es
 have fl1:H1.floor = 0:=f1.floor
 have n01:¬ (H1.next = H1.next + 1):=by omega
 have n02:¬ (H1.next + 1 = H1.next):=by omega
 have fl2:H1.floor ≤ H1.next + 1:=by omega
 have fl3:H1.floor ≤ H1.next:=by omega
 (repeat' (first | (simp only [wp,extractV,w0,reduceIte,Nat.reduceAdd,Nat.reduceLT,Nat.reduceLeDiff,Nat.reduceEqDiff,fl2,fl3,n01,n02]) | (with_reducible ((first | apply xC | apply xG | apply xQ) <;> intro hb <;> try simp only [hb]))))
 have hp0:PgOk [(⟨7,false,List.replicate 64 0⟩:Pa)]:=⟨rfl,by simp,by simp,fun p hp v hv => by
  rw [List.mem_singleton] at hp
  subst hp
  have:=List.eq_of_mem_replicate hv
  subst this
  decide⟩
 refine Run.gen (P:=fun K => Lc K H1.next (H1.next + 1) pS (sM Z16 Z16 [] [] [⟨7,false,List.replicate 64 0⟩]) a b c d x y z u v w g pr) (lc_first (s:=sM Z16 Z16 [] [] [⟨7,false,List.replicate 64 0⟩]) mp ms fl1 hlp hls rfl rfl ?_ ?_ ?_) fun K lc => ?_
 ·rw [Heap.set_blk,if_neg n01,Heap.set_blk,if_pos rfl]
 ·rw [Heap.set_blk,if_pos rfl]
  rfl
 ·intro q' h1
  have h2:¬ (q' = H1.next):=by omega
  have h3:¬ (q' = H1.next + 1):=by omega
  simp only [Heap.set_blk,Heap.add_blk,Heap.add_next,if_neg h2,if_neg h3]
 refine loop_runM hA ⟨Z16,Z16,[],_,a,b,c,d,x,y,z,u,v,w,g,pr,lc,Rg.zero,Rg.zero,⟨by decide,fun _ h => by cases h⟩,hp0⟩ hX hsc hsz a0 fun r H' => ?_
 (repeat' (first | (simp only [wp,extractV,w0,reduceIte,Nat.reduceAdd,Nat.reduceLT,Nat.reduceLeDiff,Nat.reduceEqDiff]) | (with_reducible ((first | apply xC | apply xG | apply xQ) <;> intro hb <;> try simp only [hb]))))
end Sy
end Go.Fv.Tr
namespace Go.Fv.Tr
open Go Go.Fv Go.Proofs
set_option maxRecDepth 100000
noncomputable def CC:=cfg GX
theorem rulesC (call:CV) (x0:V):fnVc CC call 100 104 [x0] = outV (ferry_valid_asked_rules GX call x0):=by kernel_rfl
noncomputable def ovR:FuncId → (FuncId → List V → M V) → List V → Option (M V):=fun f call args => if f = 104 then (match args with | [x0] => some (outV (ferry_valid_asked_rules GX call x0)) | _ => none) else none
theorem ovR_ok:OvOk CC 100 ovR:=fun f call args m h => by
 unfold ovR at h
 split at h
 ·rename_i e
  subst e
  split at h
  ·injection h with h
   rw [← h,rulesC]
  ·cases h
 ·cases h
theorem knownX:playsTrueO CC ovR 100 13 8 [] = true:=by kernel_rfl
theorem known_run:callV (cfg GX) (sem (cfg GX) 13) 8 [] = M.ret (.bool true):=by
 obtain ⟨H',e⟩:=plays_trueO ovR_ok knownX
 exact callV_pure0 rfl rfl rfl ⟨_,H',e,rfl⟩
end Go.Fv.Tr
namespace Go.Proofs.YtekncgjkocgioaaGreatDoor
open Go Go.Fv Go.Fv.Tr Go.ChangeShapes Go.WideShapes Go.RowKit
section
variable {P:Program} {n:Nat}
theorem shs1 {t1 : TypeId} {xs : List V} (h : Shs P n [t1] xs) : ∃ a, xs = [a] ∧ ∃ l, Sh P n t1 l ∧ a = argV P t1 l := by
  cases xs with
  | nil => exact h.elim
  | cons a xs => cases xs with
    | nil => exact ⟨a,rfl,h.1⟩
    | cons b xs => exact h.2.elim
theorem shs2 {t1 t2 : TypeId} {xs : List V} (h : Shs P n [t1, t2] xs) : ∃ a b, xs = [a, b] ∧ (∃ l, Sh P n t1 l ∧ a = argV P t1 l) ∧ ∃ l, Sh P n t2 l ∧ b = argV P t2 l := by
  cases xs with
  | nil => exact h.elim
  | cons a xs =>
    obtain ⟨b,rfl,h2⟩:=shs1 (P:=P) (n:=n) (t1:=t2) (xs:=xs) h.2
    exact ⟨a,b,rfl,h.1,h2⟩
end
set_option maxRecDepth 100000 in
theorem sh_i {n:Nat} {l:List V} (h:Sh Tryz.prog (n + 1) 3 l):∃ m:Int,l = [.int .i64 m] ∧ (Lit.int .i64 m).wf = true:=by
 obtain ⟨m,hm,rfl⟩:=sh_int Tryz.underlying3 h
 exact ⟨m,rfl,hm⟩
theorem argVI (x:V):argV Tryz.prog 3 [x] = x:=by
 unfold argV
 rw [Tryz.underlying3]
 rfl
theorem inI:inTy Tryz.prog 5 3 = true:=by kernel_rfl
theorem clS:Tryz.prog.cellsOf 9 = 1:=by kernel_rfl
theorem byS:Tryz.prog.bytesOf 9 = 16:=by kernel_rfl
set_option maxRecDepth 100000 in
theorem sl_s {n:Nat} {l:List V} (h:Sh Tryz.prog (n + 3) 54 l):∃ (x:V) (ps:List ByteArray),l = [x] ∧ Sls x 1 (ps.map Sy.stR) ∧ ps.length ≤ room ∧ ∀ p ∈ ps,p.size ≤ big:=by
 have hrb:reachBytes ≤ room:=of_decide_eq_true (by kernel_rfl)
 have hbb:room ≤ big:=Sy.room_big
 obtain ⟨z,r,e,s,l,b,q⟩:=sh_slice Tryz.underlying54 h
 obtain ⟨ps,rfl,w⟩:=choose_map (f:=Sy.stR) (W:=fun p => p.size ≤ big) fun r hr => by
  obtain ⟨m,hm,e⟩:=sh_str Tryz.underlying9 (q r hr)
  exact ⟨m,e,by omega⟩
 rw [clS] at s
 rw [List.length_map,byS] at b
 exact ⟨z,ps,e,s,by omega,w⟩
theorem argVSs (x:V):argV Tryz.prog 54 [x] = x:=by
 unfold argV
 rw [Tryz.underlying54]
 rfl
theorem inSs:inTy Tryz.prog 5 54 = true:=by kernel_rfl
theorem berrsX:Sy.BErrs GX:=⟨fun g h => by
 have h':laidL.contains g = true:=by
  unfold Sy.isB at h
  simp [Sy.sentB] at h
  rcases h with rfl | rfl | rfl | rfl | rfl | rfl | rfl | rfl | rfl <;> rfl
 unfold GX
 rw [if_pos h']⟩
end Go.Proofs.YtekncgjkocgioaaGreatDoor
