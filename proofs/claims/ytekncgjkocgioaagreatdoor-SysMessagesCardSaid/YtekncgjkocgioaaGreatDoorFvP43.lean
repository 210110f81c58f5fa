/-
  The law SysMessages, run to its end: reading. By an AI agent; no person has read it.
-/
import Derived.Test.YtekncgjkocgioaaGreatDoorFvP42
set_option linter.unusedVariables false
set_option linter.unusedSimpArgs false
set_option linter.unusedSectionVars false
/-! The law SysMessages, run to its end: reading. -/
namespace Go.Fv.Tr
open Go Go.Fv Go.Fv.Pl Go.Proofs
variable {G:GV}
namespace Sy
variable {r0 r1:List Int} {i o:List ByteArray} {pgs:List Pa} {p:Pn} {s:St} {x y z a b c d u v w g:V} {pr:List (List V)} {H H' K:Heap} {L0 L1 Lr:Nat}
theorem Lc.port (h:Lc H L0 L1 p s a b c d x y z u v w g pr) {n:Nat} {q:Po} (hq:s.ports[n]? = some q) :
  ∃ lw bw mv,loc w = some lw ∧ idxV 2 w (.int .i64 (n:Nat)) = some (.ptr lw n 0) ∧ H.blk lw = some bw ∧ bw.rows[n]? = some [mv,i64 q.age] ∧ n < bw.rows.length ∧ pr[n]? = some [mv,i64 q.age] ∧ Own H mv 1 (q.msgs.map stR) ∧ H.floor ≤ lw ∧ lw ≠ L0 ∧ lw ≠ L1 ∧ lw < H.next ∧ lw ∈ lv [x,y,z,u,v,w,g] ++ lr pr:=by
 obtain ⟨hn,e⟩:=List.getElem?_eq_some_iff.1 hq
 have hlt:n < pr.length:=by rw [h.ms.row.len]; exact hn
 obtain ⟨lw,bw,h1,h2,h3,h4,h5⟩:=h.ms.ports.idx (k:=.i64) hlt
 have hmem:lw ∈ lv [x,y,z,u,v,w,g] ++ lr pr:=List.mem_append_left _ (mem_lv.2 ⟨w,by simp,h1⟩)
 obtain ⟨mv,er,ho,hl⟩:=h.ms.row.row n hlt
 rw [e] at er ho
 rw [er] at h4
 exact ⟨lw,bw,mv,h1,h2,h3,h4,(List.getElem?_eq_some_iff.1 h4).1,by rw [List.getElem?_eq_getElem hlt,er],ho,h5,(h.m1 lw hmem).1,(h.m1 lw hmem).2.1,h.ms.lt hmem,hmem⟩
theorem MS.port {l:List V} (h:MS H l s x y z u v w g pr) {n:Nat} {q:Po} (hq:s.ports[n]? = some q) :
  ∃ lw bw mv,loc w = some lw ∧ idxV 2 w (.int .i64 (n:Nat)) = some (.ptr lw n 0) ∧ H.blk lw = some bw ∧ bw.rows[n]? = some [mv,i64 q.age] ∧ Own H mv 1 (q.msgs.map stR) ∧ lw < H.next:=by
 obtain ⟨hn,e⟩:=List.getElem?_eq_some_iff.1 hq
 have hlt:n < pr.length:=by rw [h.row.len]; exact hn
 obtain ⟨lw,bw,h1,h2,h3,h4,h5⟩:=h.ports.idx (k:=.i64) hlt
 have hmem:lw ∈ lv [x,y,z,u,v,w,g] ++ lr pr:=List.mem_append_left _ (mem_lv.2 ⟨w,by simp,h1⟩)
 obtain ⟨mv,er,ho,hl⟩:=h.row.row n hlt
 rw [e] at er ho
 rw [er] at h4
 exact ⟨lw,bw,mv,h1,h2,h3,h4,ho,h.lt hmem⟩
structure Bx (H:Heap) (Lr L0 L1:Nat) (A B:List Nat):Prop where
 lt:Lr < H.next
 n0:Lr ≠ L0
 n1:Lr ≠ L1
 na:Lr ∉ A
 nb:Lr ∉ B
 row:∃ w12,H.blk Lr = some ⟨12,[w12]⟩ ∧ w12.length = 12
theorem Lc.next2 {K2 K3:Heap} {s':St} {x2 y2 z2 u2 v2 w2 g2:V} {pr2:List (List V)} (h:Lc K L0 L1 p s a b c d x y z u v w g pr) (hx:Bx K Lr L0 L1 (lv [a,b,c,d]) (lv [x,y,z,u,v,w,g] ++ lr pr)) (f:Frame K K2 (fun _ => False))
  (ms:MS K2 [i64 s'.id,i64 s'.fr,i64 s'.ep,x2,y2,z2,u2,v2,w2,g2] s' x2 y2 z2 u2 v2 w2 g2 pr2) (hge:∀ n ∈ lv [x2,y2,z2,u2,v2,w2,g2] ++ lr pr2,K.next ≤ n)
  (hf:K3.floor = K2.floor) (hn:K3.next = K2.next) (hb:K3.blk L1 = some ⟨10,[[i64 s'.id,i64 s'.fr,i64 s'.ep,x2,y2,z2,u2,v2,w2,g2]]⟩) (hr:∃ w12,K3.blk Lr = some ⟨12,[w12]⟩ ∧ w12.length = 12) (ho:∀ q,q < K2.next → q ≠ L1 → q ≠ Lr → K3.blk q = K2.blk q) :
  Lc K3 L0 L1 p s' a b c d x2 y2 z2 u2 v2 w2 g2 pr2 ∧ Bx K3 Lr L0 L1 (lv [a,b,c,d]) (lv [x2,y2,z2,u2,v2,w2,g2] ++ lr pr2):=by
 have lt:=h.lt
 have nx:=f.next
 have ltr:=hx.lt
 have f3:Frame K2 K3 (fun q => q = L1 ∨ q = Lr):=⟨by omega,hf,fun q h1 h2 => ho q h1 (fun e => h2 (.inl e)) fun e => h2 (.inr e)⟩
 refine ⟨⟨hf.trans (f.floor.trans h.fl),?_,hb,⟨by omega,by omega,lt.2.2⟩,(h.mp.frame f fun _ _ => id).frame f3 fun n hn e => ?_,ms.frame f3 fun n hn e => ?_,fun n hn => ?_,fun n hn => ?_⟩,⟨by omega,hx.n0,hx.n1,hx.na,fun hm => ?_,hr⟩⟩
 ·exact (ho L0 (by omega) lt.2.2 (Ne.symm hx.n0)).trans ((f.old L0 lt.1 id).trans h.b0)
 ·rcases e with e | e
  ·exact (h.m0 n hn).2.1 e
  ·exact hx.na (e ▸ hn)
 ·have:=hge n hn
  omega
 ·have:=h.m0 n hn
  exact ⟨this.1,this.2.1,by omega⟩
 ·have h1:=hge n hn
  exact ⟨by omega,by omega,fun hm => by have:=(h.m0 n hm).2.2; omega⟩
 ·have:=hge Lr hm
  omega
theorem Bx.frame {A B:List Nat} {P:Nat → Prop} (h:Bx H Lr L0 L1 A B) (f:Frame H H' P) (hp:¬ P Lr):Bx H' Lr L0 L1 A B:=by
 obtain ⟨w12,h1,h2⟩:=h.row
 exact ⟨Nat.lt_of_lt_of_le h.lt f.next,h.n0,h.n1,h.na,h.nb,w12,(f.old Lr h.lt hp).trans h1,h2⟩
theorem out_own (nn:Nat) {g:V} {ps:List Pa} (ho:Own H g 66 (ps.map paR)) (hp:PgOk ps) {m n:Nat} (hm:m + n ≤ 64) {Q:V → Heap → Prop} (q:Q (.tuple [.str (bs (outP ps m n)),i64 0,.nili]) H) :
  Run (callV (cfg G) (sem (cfg G) (nn + 3)) 13 [g,.int .u32 ((m:Nat):Int),i64 ((n:Nat):Int)]) H Q:=by
 obtain ⟨yy,e,hs⟩:=thawV_at (K:=H) ho (flat_pas _) fun _ _ => rfl
 have hrm:room = 140737488355328:=rfl
 refine Run.ans rfl (bs:=[yy,.int .u32 ((m:Nat):Int),i64 ((n:Nat):Int)]) ?_ (out_says nn hs (by rw [hp.len]; omega) hp.data hp.by_ (by omega) (by omega)) fun r er => ?_
 ·simp only [List.mapM_cons,List.mapM_nil,e]
  rfl
 ·rw [(span0 hp hm).2,if_pos rfl] at er
  subst er
  exact q
def Rd2 (G:GV) (L0 L1 Lr:Nat) (n:Nat) (H:Heap):Prop:=∃ r0 r1 i o pgs a b c d x y z u v w g pr,Lc H L0 L1 pS (sM r0 r1 i o pgs) a b c d x y z u v w g pr ∧ Bx H Lr L0 L1 (lv [a,b,c,d]) (lv [x,y,z,u,v,w,g] ++ lr pr) ∧
 Rg r0 ∧ Rg r1 ∧ MsOk i ∧ MsOk o ∧ PgOk pgs ∧ i.length + n ≤ 2
set_option maxRecDepth 20000 in
set_option maxHeartbeats 4000000 in
theorem read_loop (hA : BErrs G) {e0 : V} (he0 : e0.cells? = some [e0]) {f0 : V} (h0 : Rd2 G L0 L1 Lr 0 H) {Q : R → Heap → Prop}
    (q:∀ e1 r0 r1 o pgs a b c d x y z u v w g pr H',Lc H' L0 L1 pS (sM r0 r1 [] o pgs) a b c d x y z u v w g pr → Bx H' Lr L0 L1 (lv [a,b,c,d]) (lv [x,y,z,u,v,w,g] ++ lr pr) → Rg r0 → Rg r1 → MsOk o → PgOk pgs → Q (.exit 2,[e1,f0]) H') :
    Run (loopV (ferry_ferrylaw12_SysMessages_l2 G (sem (cfg G) 13) (.ptr L1 0 0) (.ptr L0 0 0) (.ptr Lr 0 0)) [e0,f0]) H Q:=by
  refine Run.loop (N:=2) (fun k r H' => ∃ e1,r = [e1,f0] ∧ Rd2 G L0 L1 Lr k H') ⟨e0,rfl,h0⟩ ?_
  rintro k r H hk ⟨e1,rfl,r0,r1,i,o,pgs,a,b,c,d,x,y,z,u,v,w,g,pr,lc,bx,hr0,hr1,hi,ho,hp,hik⟩
  simp only [ferry_ferrylaw12_SysMessages_l2]
  have hb1:=lc.b1
  have hb0:=lc.b0
  obtain ⟨lw,bw,mv,w1,w2,w3,w4,w5,w6,om,w7,w8,w9,w10,w11⟩:=lc.port (n:=0) (q:=⟨i,0⟩) rfl
  have w2':idxV 2 w (.int .i64 0) = some (.ptr lw 0 0):=w2
  have hl:=om.len
  rw [List.length_map] at hl
  cases i with
  | nil =>
    have d0:decide ((0:Int) < ((0:Nat):Int)) = false:=rfl
    (repeat' (first | (simp only [wp,extractV,w0,reduceIte,Nat.reduceAdd,Nat.reduceLT,Nat.reduceLeDiff,Nat.reduceEqDiff,hb1,w2',w3,w4,hl,d0]) | (with_reducible ((first | apply xC | apply xG | apply xQ) <;> intro hb <;> try simp only [hb]))))
    exact q _ _ _ _ _ _ _ _ _ _ _ _ _ _ _ _ _ _ lc bx hr0 hr1 ho hp
  | cons m0 ms =>
    have d0:decide ((0:Int) < ((ms.length + 1:Nat):Int)) = true:=by rw [decide_eq_true_eq]; omega
    have hB:=sM_b hr0 hr1 hi ho hp
    obtain ⟨lm,bm,m1,m2,m3,m4,m5⟩:=om.idx (k:=.i64) (i:=0) (by simp)
    have m2':idxV 1 mv (.int .i64 0) = some (.ptr lm 0 0):=m2
    have m4':bm.rows[0]? = some [.str m0]:=m4
    obtain ⟨lx,bk,g1,g2,g3,g4,g5,g6,g7,g8,e2,e3,lc2⟩:=lc.regs hB (q:=1) (p0:=⟨r1,0,1,5,0,0⟩) rfl (i:=1) (j:=2) (by decide) (by decide) 0 40
    have g1':idxV 21 x (.int .i64 1) = some (.ptr lx 1 0):=g1
    have ha1:aidxV 16 1 (.ptr lx 1 0) (.int .i64 1) = some (.ptr lx 1 1):=aidx16 (n:=1) (by decide)
    have ha2:aidxV 16 1 (.ptr lx 1 0) (.int .i64 2) = some (.ptr lx 1 2):=aidx16 (n:=2) (by decide)
    have n1:decide (L1 ≠ lx) = true:=by simpa using Ne.symm g8
    have n2:¬ (L1 = lx):=Ne.symm g8
    have hw1:Wp ⟨r1,0,1,5,0,0⟩:=hr1.len
    have g3':bk.rows[1]? = some (prRow ⟨r1,0,1,5,0,0⟩):=g3
    have g5':1 < bk.rows.length:=g5
    have n3:(bk.rows.set 1 (prRow ⟨r1.set 1 0,0,1,5,0,0⟩))[1]? = some (prRow ⟨r1.set 1 0,0,1,5,0,0⟩):=List.getElem?_set_self g5'
    have n4:(prRow ⟨r1.set 1 0,0,1,5,0,0⟩).length = 21:=pr_len (hr1.set (k:=1) (n:=0) (by decide) ⟨by omega,by omega⟩).len
    obtain ⟨lx',_,hx1,hx2,_⟩:=lc.at (q:=1) (p0:=⟨r1,0,1,5,0,0⟩) rfl
    have ex : lx' = lx := by
      have:=hx2.symm.trans g1
      simp only [Option.some.injEq,V.ptr.injEq] at this
      exact this.1
    subst ex
    obtain ⟨dd,_⟩:=nd_ne (A:=[x,y,z,u,v]) (B:=[g]) lc.ms.nd w1
    have n5:¬ (lw = lx'):=fun e => dd x (by simp) lx' hx1 e.symm
    have n6:¬ (L0 = lx'):=Ne.symm g7
    have sb : arithV .sub (i64 ((ms.length + 1 : Nat) : Int)) (i64 1) = some (i64 ((ms.length : Nat) : Int)) := by
      have:=hi.len
      rw [List.length_cons] at this
      rw [arith_sub (by omega) (by omega)]
      congr 2
      omega
    (repeat' (first | (simp only [wp,extractV,w0,reduceIte,Nat.reduceAdd,Nat.reduceLT,Nat.reduceLeDiff,Nat.reduceEqDiff,hb0,hb1,w2',w3,w4,hl,d0,m2',m3,m4',apartV,n1,n2,g1',g2,g3',g4,g6,ha1,ha2,e2,e3,n3,n4,n5,n6,sb]) | (with_reducible ((first | apply xC | apply xG | apply xQ) <;> intro hb <;> try simp only [hb]))))
    rw [set_set,List.set_set]
    have hmx:lx' ∈ lv [x,y,z,u,v,w,g] ++ lr pr:=List.mem_append_left _ (mem_lv.2 ⟨x,by simp,hx1⟩)
    have hr12:Rg ((r1.set 1 0).set 2 40):=(hr1.set (k:=1) (n:=0) (by decide) ⟨by omega,by omega⟩).set (k:=2) (n:=40) (by decide) ⟨by omega,by omega⟩
    have q1:((r1.set 1 0).set 2 40)[1]? = some 0:=by rw [List.getElem?_set_ne (by decide)]; exact reg_set hr1 (by decide) 0
    have q2:((r1.set 1 0).set 2 40)[2]? = some ((40:Nat):Int):=reg_set (hr1.set (k:=1) (n:=0) (by decide) ⟨by omega,by omega⟩) (by decide) 40
    have lc2':Lc (H.set lx' ⟨bk.sz,bk.rows.set 1 (prRow ⟨(r1.set 1 0).set 2 40,0,1,5,0,0⟩)⟩) L0 L1 pS (sM r0 ((r1.set 1 0).set 2 40) (m0 :: ms) o pgs) a b c d x y z u v w g pr:=lc2
    clear lc2
    generalize (r1.set 1 0).set 2 40 = r2 at *
    refine Run.gen (P:=fun K => Lc K L0 L1 pS (sM r0 r2 (m0 :: ms) o pgs) a b c d x y z u v w g pr ∧ Bx K Lr L0 L1 (lv [a,b,c,d]) (lv [x,y,z,u,v,w,g] ++ lr pr)) ⟨lc2',bx.frame (Frame.set (p:=fun t => t = lx') _ _ rfl) fun e => bx.nb (e ▸ hmx)⟩ fun K ⟨lc3,bx3⟩ => ?_
    have hK:K.floor ≤ K.next:=by rw [lc3.fl]; exact Nat.zero_le _
    refine (do_readM hA 2 lc3.mp lc3.ms hr0 hr12 hi ho hp q1 q2 (fun _ => by decide) hK).mono fun _ K2 ⟨l2,x2,y2,z2,u2,v2,w2_,g2_,pr2,er,ms2,f2,hge2⟩ => ?_
    subst er
    have el2:=ms2.eq
    subst el2
    have eM:readM r0 r2 (m0 :: ms) o pgs 40 = sM r0 ((r2.set 1 (m0.size:Nat)).set 2 1) ms o (inP pgs 40 m0.data.toList):=rfl
    rw [eM] at ms2 ⊢
    have fk2:K2.floor = 0:=f2.floor.trans lc3.fl
    have nx2:=f2.next
    have nlt:=lc3.lt
    have hrl:=bx3.lt
    obtain ⟨w12,hbr,hlr⟩:=bx3.row
    have hbr2:=(f2.old Lr hrl id).trans hbr
    have dr12:w12.drop 12 = []:=List.drop_of_length_le (by omega)
    have l12:12 ≤ w12.length:=by omega
    have c1:¬ (L1 = Lr):=Ne.symm bx3.n1
    have c2:¬ (Lr = L1):=bx3.n1
    have c3:K2.floor ≤ Lr:=by rw [fk2]; exact Nat.zero_le _
    have c4:K2.floor ≤ L1:=by rw [fk2]; exact Nat.zero_le _
    have hb2:=(f2.old L1 nlt.2.1 id).trans lc3.b1
    have hlx:lenV x2 = some (i64 2):=ms2.ps.len
    have hlw : lenV w2_ = some (i64 2) := by
      have:=ms2.ports.len
      rw [ms2.row.len] at this
      exact this
    obtain ⟨lp,bp,mp,p1,p2,p3,p4,op,p5⟩:=MS.port ms2 (n:=0) (q:=⟨ms,0⟩) rfl
    have p2':idxV 2 w2_ (.int .i64 0) = some (.ptr lp 0 0):=p2
    have p6:=hge2 lp (List.mem_append_left _ (mem_lv.2 ⟨w2_,by simp,p1⟩))
    have c5:¬ (lp = Lr):=by omega
    have hlp:=op.len
    rw [List.length_map] at hlp
    (repeat' (first | (simp only [wp,extractV,w0,reduceIte,Nat.reduceAdd,Nat.reduceLT,Nat.reduceLeDiff,Nat.reduceEqDiff,eq_nili,c1,c2,c3,c4,c5,hb2,hbr2,dr12,l12,hlx,hlw,p2',p3,p4,hlp,beq_self_eq_true]) | (with_reducible ((first | apply xC | apply xG | apply xQ) <;> intro hb <;> try simp only [hb]))))
    have hm4:m0.size ≤ 4:=hi.sz m0 (List.mem_cons_self ..)
    have hms:MsOk ms:=⟨by have:=hi.len; rw [List.length_cons] at this; omega,fun t ht => hi.sz t (List.mem_cons_of_mem _ ht)⟩
    have hp2:PgOk (inP pgs 40 m0.data.toList):=inP_ok hp
    have hsz : m0.data.toList.length = m0.size := by
      have:=bs_size m0.data.toList
      rw [bs_toList] at this
      exact this.symm
    have hr22:Rg ((r2.set 1 (m0.size:Nat)).set 2 1):=(hr12.set (k:=1) (n:=(m0.size:Nat)) (by decide) ⟨by omega,by omega⟩).set (k:=2) (n:=1) (by decide) ⟨by omega,by omega⟩
    have t1:((r2.set 1 (m0.size:Nat)).set 2 1)[1]? = some ((m0.size:Nat):Int):=by rw [List.getElem?_set_ne (by decide)]; exact reg_set hr12 (by decide) _
    have t2:((r2.set 1 (m0.size:Nat)).set 2 1)[2]? = some 1:=reg_set (hr12.set (k:=1) (n:=(m0.size:Nat)) (by decide) ⟨by omega,by omega⟩) (by decide) 1
    have hout : bs (outP (inP pgs 40 m0.data.toList) 40 m0.size) = m0 := by
      have:=out_in (l:=m0.data.toList) (a:=40) hp (by omega)
      rw [hsz] at this
      rw [this,bs_toList]
    generalize inP pgs 40 m0.data.toList = pg2 at *
    generalize (r2.set 1 (m0.size:Nat)).set 2 1 = r3 at *
    refine Run.gen (P:=fun K => Lc K L0 L1 pS (sM r0 r3 ms o pg2) a b c d x2 y2 z2 u2 v2 w2_ g2_ pr2 ∧ Bx K Lr L0 L1 (lv [a,b,c,d]) (lv [x2,y2,z2,u2,v2,w2_,g2_] ++ lr pr2)) (lc3.next2 bx3 f2 ms2 hge2 rfl rfl ?_ ?_ ?_) fun K3 ⟨lc4,bx4⟩ => ?_
    · rw [Heap.set_blk,if_pos rfl]
    · exact ⟨_,by rw [Heap.set_blk,if_neg c2,Heap.set_blk,if_pos rfl],rfl⟩
    · intro q' h1 h2 h3
      rw [Heap.set_blk,if_neg h2,Heap.set_blk,if_neg h3]
    · have hb4 := lc4.b1
      have cz:convI .u32 (i64 (m0.size:Nat)) = some (.int .u32 (m0.size:Nat)):=conv_u32a (by omega) (by omega)
      (repeat' (first | (simp only [wp,extractV,w0,reduceIte,Nat.reduceAdd,Nat.reduceLT,Nat.reduceLeDiff,Nat.reduceEqDiff,lenS_str]) | (with_reducible ((first | apply xC | apply xG | apply xQ) <;> intro hb <;> try simp only [hb]))))
      refine out_own 10 (ps:=pg2) (m:=40) (n:=m0.size) lc4.ms.pages hp2 (by omega) ?_
      rw [hout]
      obtain ⟨ly,bk2,y1,y2',y3,y4,y5⟩:=lc4.at (q:=1) (p0:=⟨r3,0,1,5,0,0⟩) rfl
      have y2'':idxV 21 x2 (.int .i64 1) = some (.ptr ly 1 0):=y2'
      have y4':bk2.rows[1]? = some (prRow ⟨r3,0,1,5,0,0⟩):=y4
      have hb1':aidxV 16 1 (.ptr ly 1 0) (.int .i64 1) = some (.ptr ly 1 1):=aidx16 (n:=1) (by decide)
      have hb2':aidxV 16 1 (.ptr ly 1 0) (.int .i64 2) = some (.ptr ly 1 2):=aidx16 (n:=2) (by decide)
      have hw3:Wp ⟨r3,0,1,5,0,0⟩:=hr22.len
      have g1r : (prRow ⟨r3, 0, 1, 5, 0, 0⟩)[1]? = some (.int .u32 ((m0.size : Nat) : Int)) := by
        have:=prRow_reg hw3 (n:=1) (by decide)
        rw [t1] at this
        exact this
      have g2r : (prRow ⟨r3, 0, 1, 5, 0, 0⟩)[2]? = some (.int .u32 1) := by
        have:=prRow_reg hw3 (n:=2) (by decide)
        rw [t2] at this
        exact this
      (repeat' (first | (simp only [wp,extractV,w0,reduceIte,Nat.reduceAdd,Nat.reduceLT,Nat.reduceLeDiff,Nat.reduceEqDiff,eq_nili,hb4,y2'',y3,y4',hb1',hb2',g1r,g2r,cz,lenS_str,beq_self_eq_true]) | (with_reducible ((first | apply xC | apply xG | apply xQ) <;> intro hb <;> try simp only [hb]))))
      have hik':ms.length + 1 + k ≤ 2:=hik
      exact ⟨by omega,_,rfl,r0,r3,ms,o,pg2,a,b,c,d,x2,y2,z2,u2,v2,w2_,g2_,pr2,lc4,bx4,hr0,hr22,hms,ho,hp2,by omega⟩
end Sy
end Go.Fv.Tr
namespace Go.Fv.Tr
open Go Go.Fv Go.Fv.Pl Go.Proofs
variable {G:GV}
namespace Sy
variable {r0 r1:List Int} {i o:List ByteArray} {pgs:List Pa} {p:Pn} {s:St} {x y z a b c d u v w g:V} {pr:List (List V)} {H H' K:Heap} {L0 L1 Lr:Nat}
def Be (L0 L1:Nat) (H:Heap):Prop:=∃ r0 r1 o pgs a b c d x y z u v w g pr,Lc H L0 L1 pS (sM r0 r1 [] o pgs) a b c d x y z u v w g pr ∧ Rg r0 ∧ Rg r1 ∧ MsOk o ∧ PgOk pgs
theorem Rg.get {r:List Int} (h:Rg r) {k:Nat} (hk:k < 16):∃ m:Nat,r[k]? = some ((m:Nat):Int):=by
 have hl:k < r.length:=by rw [h.len]; exact hk
 have:=h.ok _ (List.getElem_mem hl)
 refine ⟨r[k].toNat,?_⟩
 rw [List.getElem?_eq_getElem hl]
 congr 1
 have:=this.1
 omega
set_option maxRecDepth 20000 in
set_option maxHeartbeats 4000000 in
theorem tail_runM (hA:BErrs G) (st:Rd2 G L0 L1 Lr 0 H) {n N:Nat} (hn:n < N) (hN:N ≤ room) :
  Run (ferry_ferrylaw12_SysMessages_j1 G (sem (cfg G) 13) (.ptr L1 0 0) (.ptr L0 0 0) (.ptr Lr 0 0) .nili [.bool false,i64 (n:Nat)]) H fun r H' => r = (.normal,[.bool false,i64 ((n + 1:Nat):Int)]) ∧ Be L0 L1 H':=by
 simp only [ferry_ferrylaw12_SysMessages_j1]
 (repeat' (first | (simp only [wp,extractV,w0,reduceIte,Nat.reduceAdd,Nat.reduceLT,Nat.reduceLeDiff,Nat.reduceEqDiff]) | (with_reducible ((first | apply xC | apply xG | apply xQ) <;> intro hb <;> try simp only [hb]))))
 refine read_loop hA rfl st fun e1 r0 r1 o pgs a b c d x y z u v w g pr K lc bx hr0 hr1 ho hp => ?_
 have hi:MsOk []:=⟨by decide,fun _ h => by cases h⟩
 have hB:=sM_b hr0 hr1 hi ho hp
 have hb0:=lc.b0
 have hb1:=lc.b1
 obtain ⟨lx,bk,g1,g2,g3,g4,g5,g6,g7,g8,e2,e3,lc2⟩:=lc.regs hB (q:=1) (p0:=⟨r1,0,1,5,0,0⟩) rfl (i:=1) (j:=1) (by decide) (by decide) 0 0
 have g1':idxV 21 x (.int .i64 1) = some (.ptr lx 1 0):=g1
 have ha1:aidxV 16 1 (.ptr lx 1 0) (.int .i64 1) = some (.ptr lx 1 1):=aidx16 (n:=1) (by decide)
 have n1:¬ (L1 = lx):=Ne.symm g8
 have n2:¬ (L0 = lx):=Ne.symm g7
 have g3':bk.rows[1]? = some (prRow ⟨r1,0,1,5,0,0⟩):=g3
 obtain ⟨lx',_,hx1,hx2,_⟩:=lc.at (q:=1) (p0:=⟨r1,0,1,5,0,0⟩) rfl
 have ex:lx' = lx:=by
  have:=hx2.symm.trans g1
  simp only [Option.some.injEq,V.ptr.injEq] at this
  exact this.1
 subst ex
 have ad:arithV .add (i64 (n:Nat)) (i64 1) = some (i64 ((n + 1:Nat):Int)):=addN hn (Nat.le_trans hN room_big)
 (repeat' (first | (simp only [wp,extractV,w0,reduceIte,Nat.reduceAdd,Nat.reduceLT,Nat.reduceLeDiff,Nat.reduceEqDiff,hb0,hb1,n1,n2,g1',g2,g3',g4,g6,ha1,e2]) | (with_reducible ((first | apply xC | apply xG | apply xQ) <;> intro hb <;> try simp only [hb]))))
 have hmx:lx' ∈ lv [x,y,z,u,v,w,g] ++ lr pr:=List.mem_append_left _ (mem_lv.2 ⟨x,by simp,hx1⟩)
 have lc2':Lc (K.set lx' ⟨bk.sz,bk.rows.set 1 (prRow ⟨(r1.set 1 0).set 1 0,0,1,5,0,0⟩)⟩) L0 L1 pS (sM r0 ((r1.set 1 0).set 1 0) [] o pgs) a b c d x y z u v w g pr:=lc2
 clear lc2
 rw [List.set_set] at lc2'
 have hr2:Rg (r1.set 1 0):=hr1.set (k:=1) (n:=0) (by decide) ⟨by omega,by omega⟩
 have q1:(r1.set 1 0)[1]? = some 0:=reg_set hr1 (by decide) 0
 refine Run.gen (P:=fun K => Lc K L0 L1 pS (sM r0 (r1.set 1 0) [] o pgs) a b c d x y z u v w g pr ∧ Bx K Lr L0 L1 (lv [a,b,c,d]) (lv [x,y,z,u,v,w,g] ++ lr pr)) ⟨lc2',bx.frame (Frame.set (p:=fun t => t = lx') _ _ rfl) fun e => bx.nb (e ▸ hmx)⟩ fun K ⟨lc3,bx3⟩ => ?_
 generalize r1.set 1 0 = r2 at *
 obtain ⟨m2,q2⟩:=hr2.get (k:=2) (by decide)
 have hK:K.floor ≤ K.next:=by rw [lc3.fl]; exact Nat.zero_le _
 refine (do_readM hA 2 lc3.mp lc3.ms hr0 hr2 hi ho hp q1 q2 (fun h => absurd rfl h) hK).mono fun _ K2 ⟨l2,x2,y2,z2,u2,v2,w2_,g2_,pr2,er,ms2,f2,hge2⟩ => ?_
 subst er
 have el2:=ms2.eq
 subst el2
 have eM:readM r0 r2 [] o pgs m2 = sM r0 (r2.set 1 4294967292) [] o pgs:=rfl
 rw [eM] at ms2 ⊢
 have fk2:K2.floor = 0:=f2.floor.trans lc3.fl
 have nx2:=f2.next
 have hrl:=bx3.lt
 obtain ⟨w12,hbr,hlr⟩:=bx3.row
 have hbr2:=(f2.old Lr hrl id).trans hbr
 have dr12:w12.drop 12 = []:=List.drop_of_length_le (by omega)
 have l12:12 ≤ w12.length:=by omega
 have c3:K2.floor ≤ Lr:=by rw [fk2]; exact Nat.zero_le _
 have hlx:lenV x2 = some (i64 2):=ms2.ps.len
 obtain ⟨ly,bk2,y1,y2',y3,y4,-⟩:=ms2.ps.idx (k:=.i64) (i:=1) (show (1:Nat) < 2 by decide)
 have y2'':idxV 21 x2 (.int .i64 1) = some (.ptr ly 1 0):=y2'
 have y4':bk2.rows[1]? = some (prRow ⟨r2.set 1 4294967292,0,1,5,0,0⟩):=y4
 have y5:=hge2 ly (List.mem_append_left _ (mem_lv.2 ⟨x2,by simp,y1⟩))
 have c4:¬ (ly = Lr):=by omega
 have hb1':aidxV 16 1 (.ptr ly 1 0) (.int .i64 1) = some (.ptr ly 1 1):=aidx16 (n:=1) (by decide)
 have hw3:Wp ⟨r2.set 1 4294967292,0,1,5,0,0⟩:=(hr2.set (k:=1) (n:=4294967292) (by decide) ⟨by omega,by omega⟩).len
 have g1r:(prRow ⟨r2.set 1 4294967292,0,1,5,0,0⟩)[1]? = some (.int .u32 4294967292):=by
  have:=prRow_reg hw3 (n:=1) (by decide)
  rw [show (r2.set 1 4294967292)[1]? = some 4294967292 from reg_set hr2 (by decide) _] at this
  exact this
 (repeat' (first | (simp only [wp,extractV,w0,reduceIte,Nat.reduceAdd,Nat.reduceLT,Nat.reduceLeDiff,Nat.reduceEqDiff,eq_nili,c3,c4,hbr2,dr12,l12,hlx,y2'',y3,y4',hb1',g1r,beq_self_eq_true,ad]) | (with_reducible ((first | apply xC | apply xG | apply xQ) <;> intro hb <;> try simp only [hb]))))
 refine ⟨r0,r2,o,pgs,a,b,c,d,x,y,z,u,v,w,g,pr,?_,hr0,hr2,ho,hp⟩
 exact (lc3.frame f2 id id (fun _ _ => id) fun _ _ => id).frame (Frame.set (p:=fun t => t = Lr) _ _ rfl) (Ne.symm bx3.n0) (Ne.symm bx3.n1) (fun t ht e => bx3.na (e ▸ ht)) fun t ht e => bx3.nb (e ▸ ht)
end Sy
end Go.Fv.Tr
