/-
  The law SysShares, run to its end. By an AI agent; no person has read it.
-/
import Derived.Test.YtekncgjkocgioaaGreatDoorFvP22
import Derived.Test.YtekncgjkocgioaaGreatDoorFvP43
set_option linter.unusedVariables false
set_option linter.unusedSimpArgs false
set_option linter.unusedSectionVars false
/-! The law SysShares, run to its end. -/
namespace Go.Fv.Tr
open Go Go.Fv Go.Fv.Pl Go.Proofs
variable {G:GV}
namespace Sy
variable {l m:List V} {s:St} {p:Pn} {x y z a b c d u v w g:V} {pr:List (List V)} {H H' K:Heap} {L0 L1:Nat}
structure Tn where
 proc:Int
 take:Bool
 late:Int
def tnR (t:Tn):List V:=[i64 t.proc,.bool t.take,.int .u32 t.late]
theorem rem_n {t0 n:Int} (hn:1 ≤ n ∧ n ≤ 1000):∃ q,0 ≤ q ∧ q < n ∧ ∃ w,convI .u64 (i64 t0) = some (.int .u64 w) ∧ arithV .rem (.int .u64 w) (.int .u64 n) = some (.int .u64 q) ∧ convI .i64 (.int .u64 q) = some (i64 q):=by
 have hw:0 ≤ IntKind.u64.wrap t0:=by
  simp [IntKind.wrap,IntKind.bits,IntKind.signed]
  omega
 have h1:=Int.tmod_nonneg n hw
 have h2:=Int.tmod_lt_of_pos (IntKind.u64.wrap t0) (show 0 < n by omega)
 refine ⟨(IntKind.u64.wrap t0).tmod n,h1,h2,_,rfl,?_,conv_i64 (by omega) (by omega)⟩
 have:n ≠ 0:=by omega
 simp [arithV,this]
theorem crP_b {n:Nat} {c:Int} (hn:n ≤ 8):(crP n c).pages.length ≤ big ∧ (crP n c).procs.length ≤ big ∧ (crP n c).ports.length ≤ big ∧ (crP n c).sems.length ≤ big:=by
 refine ⟨of_decide_eq_true rfl,?_,of_decide_eq_true rfl,of_decide_eq_true rfl⟩
 show ((List.range n).map _).length ≤ big
 rw [List.length_map,List.length_range]
 unfold big
 omega
theorem set_set (H:Heap) (l:Nat) (b b':Blk):(H.set l b).set l b' = H.set l b':=by
 unfold Heap.set
 simp only [Heap.mk.injEq,and_true]
 funext n
 split <;> rfl
theorem Lc.next {K2 K3:Heap} {s':St} {x2 y2 z2 u2 v2 w2 g2:V} {pr2:List (List V)} (h:Lc K L0 L1 p s a b c d x y z u v w g pr) (f:Frame K K2 (fun _ => False))
  (ms:MS K2 [i64 s'.id,i64 s'.fr,i64 s'.ep,x2,y2,z2,u2,v2,w2,g2] s' x2 y2 z2 u2 v2 w2 g2 pr2) (hge:∀ n ∈ lv [x2,y2,z2,u2,v2,w2,g2] ++ lr pr2,K.next ≤ n)
  (hf:K3.floor = K2.floor) (hn:K2.next ≤ K3.next) (hb:K3.blk L1 = some ⟨10,[[i64 s'.id,i64 s'.fr,i64 s'.ep,x2,y2,z2,u2,v2,w2,g2]]⟩) (ho:∀ q,q < K2.next → q ≠ L1 → K3.blk q = K2.blk q) :
  Lc K3 L0 L1 p s' a b c d x2 y2 z2 u2 v2 w2 g2 pr2:=by
 have lt:=h.lt
 have nx:=f.next
 have f3:Frame K2 K3 (fun q => q = L1):=⟨hn,hf,fun q h1 h2 => ho q h1 h2⟩
 refine ⟨hf.trans (f.floor.trans h.fl),?_,hb,⟨by omega,by omega,lt.2.2⟩,(h.mp.frame f fun _ _ => id).frame f3 fun n hn e => (h.m0 n hn).2.1 e,ms.frame f3 fun n hn e => ?_,fun n hn => ?_,fun n hn => ?_⟩
 ·exact (ho L0 (by omega) lt.2.2).trans ((f.old L0 lt.1 id).trans h.b0)
 ·have:=hge n hn
  omega
 ·have:=h.m0 n hn
  exact ⟨this.1,this.2.1,by omega⟩
 ·have h1:=hge n hn
  exact ⟨by omega,by omega,fun hm => by have:=(h.m0 n hm).2.2; omega⟩
def Inv (G:GV) (L0 L1 n:Nat) (cc:Int) (i:Nat) (r:List V) (H:Heap):Prop :=
 ∃ gave took t k a b c d x y z u v w g pr,r = [i64 gave,i64 took,.bool false,i64 (i:Nat)] ∧ Lc H L0 L1 (crP n cc) (crS t k) a b c d x y z u v w g pr ∧ Cr n t k ∧ cc + gave = k + took ∧ 0 ≤ gave ∧ gave ≤ i ∧ 0 ≤ took
set_option maxRecDepth 20000 in
set_option maxHeartbeats 4000000 in
theorem shares_loop (hA : BErrs G) {n : Nat} (hn : 1 ≤ n ∧ n ≤ 8) {cc : Int} (hcc : CtOk cc) {X : V} {sc : List Tn} (hX : Sls X 3 (sc.map tnR)) (hsc : sc.length ≤ room) (hlate : ∀ t ∈ sc, RegOk t.late) {s0 : List V} (h0 : Inv G L0 L1 n cc 0 s0 H) {Q : R → Heap → Prop}
    (q:∀ r H',Q (.exit 0,r) H'):Run (loopV (ferry_ferrylaw12_SysShares_l1 G (sem (cfg G) 13) X (i64 (n:Nat)) (.ptr L1 0 0) (.ptr L0 0 0) (i64 cc)) s0) H Q:=by
  refine Run.loop (N:=sc.length) (Inv G L0 L1 n cc) h0 ?_
  rintro i r H hi ⟨gave,took,t,k,a,b,c,d,x,y,z,u,v,w,g,pr,rfl,lc,cr,e1,e2,e3,e4⟩
  have hXl:=hX.len
  rw [List.length_map] at hXl
  simp only [ferry_ferrylaw12_SysShares_l1]
  by_cases hlt:i < sc.length
  · have l1 : decide (((i : Nat) : Int) < ((sc.length : Nat) : Int)) = true := by rw [decide_eq_true_eq]; omega
    have hix:=hX.idx (k:=.i64) (i:=i) (by rw [List.length_map]; exact hlt)
    rw [List.getElem_map] at hix
    have hl:=hlate _ (List.getElem_mem hlt)
    generalize sc[i] = tn at *
    obtain ⟨qq,q1,q2,wv,r1,r2,r3⟩:=rem_n (t0:=tn.proc) (n:=(n:Nat)) (by omega)
    have rn:convI .u64 (i64 (n:Nat)) = some (.int .u64 (n:Nat)):=conv_u64 (by omega) (by omega)
    have ad:=addN hlt (Nat.le_trans hsc room_big)
    have hroom:room = 140737488355328:=rfl
    have hqp:qq.toNat < t.ps.length:=by rw [cr.len]; omega
    have hat:at? (crS t k).t.ps qq = some t.ps[qq.toNat]:=at?_some.2 ⟨q1,List.getElem?_eq_getElem hqp⟩
    obtain ⟨lx,bk,g1,g2,g3,g4,g5,g6,g7,g8⟩:=lc.at hat
    have hb1:=lc.b1
    have hw:=cr.wp _ (List.getElem_mem hqp)
    by_cases hs:(t.ps[qq.toNat]).state = 1
    · have es : ((t.ps[qq.toNat]).state == 1) = true := by simpa using hs
      obtain ⟨lx',bk',k1,k2,k3,k4,k5,k6,k7,k8,k9,k10,lc2⟩:=lc.regs cr.stB hat (i:=1) (j:=2) (by decide) (by decide) 0 tn.late
      have ex : lx' = lx := by
        have:=k1.symm.trans g2
        simp only [Option.some.injEq,V.ptr.injEq] at this
        exact this.1
      subst ex
      have eb:bk' = bk:=Option.some.inj (k2.symm.trans g3)
      subst eb
      have ha1:aidxV 16 1 (.ptr lx' qq.toNat 0) (.int .i64 1) = some (.ptr lx' qq.toNat 1):=aidx16 (n:=1) (by decide)
      have ha2:aidxV 16 1 (.ptr lx' qq.toNat 0) (.int .i64 2) = some (.ptr lx' qq.toNat 2):=aidx16 (n:=2) (by decide)
      have n1:decide (L1 ≠ lx') = true:=by simpa using Ne.symm k8
      have n2:¬ (L1 = lx'):=Ne.symm k8
      have n3:(bk'.rows.set qq.toNat (prRow { t.ps[qq.toNat] with regs:=(t.ps[qq.toNat]).regs.set 1 0 }))[qq.toNat]? = some (prRow { t.ps[qq.toNat] with regs:=(t.ps[qq.toNat]).regs.set 1 0 }):=List.getElem?_set_self k5
      have n4:(prRow { t.ps[qq.toNat] with regs:=(t.ps[qq.toNat]).regs.set 1 0 }).length = 21:=pr_len (by unfold Wp at hw ⊢; simpa using hw)
      (repeat' (first | (simp only [wp,extractV,w0,reduceIte,Nat.reduceAdd,Nat.reduceLT,Nat.reduceLeDiff,Nat.reduceEqDiff,hXl,l1,hix,tnR,r1,r2,r3,rn,hb1,g2,g3,g4,pr_state hw,es,ha1,ha2,apartV,n1,n2,k4,k6,k9,k10,n3,n4]) | (with_reducible ((first | apply xC | apply xG | apply xQ) <;> intro hb <;> try simp only [hb]))))
      rw [set_set,List.set_set]
      obtain ⟨u1,f1,cr1,at1,wn1⟩:=cr.setR hat hs (j:=1) (m:=0) (by decide) ⟨by omega,by omega⟩
      obtain ⟨t2,f2,cr2,at2,wn2⟩:=cr1.setR at1 hs (j:=2) (by decide) hl
      rw [f1,f2] at lc2
      have hr2 : ((t.ps[qq.toNat].regs.set 1 0).set 2 tn.late)[1]? = some 0 := by
        rw [List.getElem?_set_ne (by decide),set_reg hw (by decide)]
      refine Run.gen (P:=fun K => Lc K L0 L1 (crP n cc) (crS t2 k) a b c d x y z u v w g pr) lc2 fun K lc3 => ?_
      clear lc2 g3 g4 k2 k3 hb1
      have hb0:=lc3.b0
      have hb1:=lc3.b1
      have hrun:isReady t2.ps qq:=by unfold isReady; rw [at2]; exact congrArg some hs
      have hK:K.floor ≤ K.next:=by rw [lc3.fl]; exact Nat.zero_le _
      have hss : ∀ j ∈ (crS t2 k).sems, 0 ≤ j ∧ j ≤ 255 := fun j hj => by
        rw [show (crS t2 k).sems = [k] from rfl,List.mem_singleton] at hj
        subst hj
        exact cr2.kk
      refine wn_loop2 lc3 cr2.stB cr2.len hn.2 ?_
      obtain ⟨lv1,bv1,v1,v2,v3,v4,-⟩:=lc3.ms.sems.idx (k:=.i64) (i:=0) (show (0:Nat) < 1 by decide)
      have v2':idxV 1 v (.int .i64 0) = some (.ptr lv1 0 0):=v2
      have v4':bv1.rows[0]? = some [i64 k]:=v4
      have v5:=(lc3.m1 lv1 (List.mem_append_left _ (mem_lv.2 ⟨v,by simp,v1⟩))).2.1
      have v6:=lc3.ms.sems.loc_lt v1
      cases hT:tn.take with
      | false =>
        obtain ⟨t3,k3,r,m,d1,cr3,at3,s3,rg3,hm⟩:=cr_signal (c:=cc) cr2 at2 hs hr2
        have hD:=do_signal hA 2 lc3.mp (crP_b hn.2) lc3.ms cr2.stB (cr2.stOk hn hcc) (at?_lt at2) (cr2.can hrun) rfl hss hK
        rw [d1] at hD
        simp only [ferry_ferrylaw12_SysShares_j4]
        (repeat' (first | (simp only [wp,extractV,w0,reduceIte,Nat.reduceAdd,Nat.reduceLT,Nat.reduceLeDiff,Nat.reduceEqDiff,hXl,hix,tnR,hT,hb0,hb1]) | (with_reducible ((first | apply xC | apply xG | apply xQ) <;> intro hb <;> try simp only [hb]))))
        refine hD.mono fun _ K2 ⟨l2,x2,y2,z2,u2,v2,w2,g2,pr2,er,ms2,f2,hge2⟩ => ?_
        subst er
        have el2:=ms2.eq
        subst el2
        have fk2:K2.floor = 0:=f2.floor.trans lc3.fl
        have nx2:=f2.next
        have nlt:=lc3.lt
        have hlx : lenV x2 = some (i64 (n : Nat)) := by
          have:=ms2.ps.len
          rw [List.length_map,show (crS t3 k3).t.ps.length = n from cr3.len] at this
          exact this
        have hlv:lenV v2 = some (i64 1):=ms2.sems.len
        have c1:¬ (K2.next = L1):=by omega
        have c2:¬ (L1 = K2.next):=by omega
        have c3:K2.floor ≤ K2.next:=by omega
        have c4:K2.floor ≤ L1:=by omega
        have c5:¬ (lv1 = K2.next):=by omega
        have hb2:=(f2.old L1 nlt.2.1 id).trans hb1
        have hv2:=(f2.old lv1 v6 id).trans v3
        (repeat' (first | (simp only [wp,extractV,w0,reduceIte,Nat.reduceAdd,Nat.reduceLT,Nat.reduceLeDiff,Nat.reduceEqDiff,eq_nili,hlx,hlv,c1,c2,c3,c4,c5,hb2,hv2,v2',v4',beq_self_eq_true]) | (with_reducible ((first | apply xC | apply xG | apply xQ) <;> intro hb <;> try simp only [hb]))))
        refine Run.gen (P:=fun K => Lc K L0 L1 (crP n cc) (crS t3 k3) a b c d x2 y2 z2 u2 v2 w2 g2 pr2) (lc3.next f2 ms2 hge2 rfl (Nat.le_succ _) ?_ ?_) fun K3 lc4 => ?_
        · rw [Heap.set_blk,if_pos rfl]
          all_goals rfl
        · intro q' h1 h2
          have h3:¬ (q' = K2.next):=by omega
          simp only [Heap.set_blk,Heap.add_blk,if_neg h2,if_neg h3]
        refine wn_loop3 lc4 cr3.stB cr3.len hn.2 ?_
        have hb3:=lc4.b1
        obtain ⟨lz,bz,z1,z2',z3,z4,z5,z6,z7,z8⟩:=lc4.at at3
        have hwr:Wp r:=cr3.wp r (at_mem at3)
        have hrg : (prRow r)[1]? = some (.int .u32 m) := by
          have:=prRow_reg hwr (n:=1) (by decide)
          rw [rg3] at this
          exact this
        have ha3:aidxV 16 1 (.ptr lz qq.toNat 0) (.int .i64 1) = some (.ptr lz qq.toNat 1):=aidx16 (n:=1) (by decide)
        obtain ⟨lq,bq,y1,y2',y3,y4,-⟩:=lc4.ms.sems.idx (k:=.i64) (i:=0) (show (0:Nat) < 1 by decide)
        have y2'':idxV 1 v2 (.int .i64 0) = some (.ptr lq 0 0):=y2'
        have y4':bq.rows[0]? = some [i64 k3]:=y4
        rw [show (crS t2 k).t = t2 from rfl,show (crS t3 k3).t = t3 from rfl]
        have hno:=cr3.wnk
        have hW2 : wn t2.ps ≤ 8 := by
          have:wn t2.ps ≤ t2.ps.length:=List.countP_le_length
          have:=cr2.len
          omega
        have hW3 : wn t3.ps ≤ 8 := by
          have:wn t3.ps ≤ t3.ps.length:=List.countP_le_length
          have:=cr3.len
          omega
        generalize wn t2.ps = W2 at *
        generalize wn t3.ps = W3 at *
        have hk3:=cr3.kk
        obtain ⟨hc0,hc1⟩:=id hcc
        have b56 : decide (0 < k3) = true ∧ decide (0 < ((W3 : Nat) : Int)) = false ∨ decide (0 < k3) = false := by
          by_cases h:0 < k3
          · exact .inl ⟨by simpa using h,by have:=hno h; rw [this]; rfl⟩
          · exact .inr (by simpa using h)
        rcases hm with ⟨rfl,hm⟩ | ⟨rfl,hm1,hm2,hm3,hm4⟩
        · have a1 : arithV .add (i64 gave) (i64 1) = some (i64 (gave + 1)) := arith_add (by omega) (by omega)
          have a2:arithV .add (i64 took) (i64 (W2:Nat)) = some (i64 (took + W2)):=arith_add (by omega) (by omega)
          have a3:arithV .sub (i64 (took + W2)) (i64 (W3:Nat)) = some (i64 (took + W2 - W3)):=arith_sub (by omega) (by omega)
          have a4:arithV .sub (i64 (W2:Nat)) (i64 (W3:Nat)) = some (i64 (W2 - W3)):=arith_sub (by omega) (by omega)
          have a5:arithV .add (i64 cc) (i64 (gave + 1)) = some (i64 (cc + (gave + 1))):=arith_add (by omega) (by omega)
          have a6:arithV .add (i64 k3) (i64 (took + W2 - W3)) = some (i64 (k3 + (took + W2 - W3))):=arith_add (by omega) (by omega)
          have b1:decide (1 < ((W2:Nat):Int) - W3) = false:=by rw [decide_eq_false_iff_not]; omega
          have b23 : decide (0 < ((W2 : Nat) : Int)) = true ∧ (((W2 : Nat) : Int) == W3) = false ∨ decide (0 < ((W2 : Nat) : Int)) = false := by
            rcases hm with ⟨h1,h2,h3⟩ | ⟨h1,h2,h3⟩
            · exact .inl ⟨by rw [decide_eq_true_eq]; omega,by rw [beq_eq_false_iff_ne]; omega⟩
            · exact .inr (by rw [decide_eq_false_iff_not]; omega)
          have b4:(cc + (gave + 1) == k3 + (took + W2 - W3)) = true:=by rw [beq_iff_eq]; omega
          have fin : ∃ gave' took' t k a b c d x y z u v w g pr, [i64 (gave + 1), i64 (took + W2 - W3), V.bool false, i64 ((i + 1 : Nat) : Int)] = [i64 gave', i64 took', .bool false, i64 ((i + 1 : Nat) : Int)] ∧ Lc K3 L0 L1 (crP n cc) (crS t k) a b c d x y z u v w g pr ∧ Cr n t k ∧ cc + gave' = k + took' ∧ 0 ≤ gave' ∧ gave' ≤ ((i + 1 : Nat) : Int) ∧ 0 ≤ took' :=
            ⟨_,_,t3,k3,a,b,c,d,x2,y2,z2,u2,v2,w2,g2,pr2,rfl,lc4,cr3,by omega,by omega,by omega,by omega⟩
          rcases b23 with ⟨b2,b3⟩ | b2
          · rcases b56 with ⟨b5, b6⟩ | b5
            · (repeat' (first | (simp only [wp,extractV,w0,reduceIte,Nat.reduceAdd,Nat.reduceLT,Nat.reduceLeDiff,Nat.reduceEqDiff,hb3,z2',z3,z4,ha3,hrg,hix,tnR,hT,a1,a2,a3,a4,a5,a6,b1,b2,b4,b5,y2'',y3,y4',ad,ferry_ferrylaw12_SysShares_j3,beq_self_eq_true,arith_gtr,b3,b6]) | (with_reducible ((first | apply xC | apply xG | apply xQ) <;> intro hb <;> try simp only [hb]))))
              exact ⟨hlt,fin⟩
            · (repeat' (first | (simp only [wp,extractV,w0,reduceIte,Nat.reduceAdd,Nat.reduceLT,Nat.reduceLeDiff,Nat.reduceEqDiff,hb3,z2',z3,z4,ha3,hrg,hix,tnR,hT,a1,a2,a3,a4,a5,a6,b1,b2,b4,b5,y2'',y3,y4',ad,ferry_ferrylaw12_SysShares_j3,beq_self_eq_true,arith_gtr,b3]) | (with_reducible ((first | apply xC | apply xG | apply xQ) <;> intro hb <;> try simp only [hb]))))
              exact ⟨hlt,fin⟩
          · rcases b56 with ⟨b5, b6⟩ | b5
            · (repeat' (first | (simp only [wp,extractV,w0,reduceIte,Nat.reduceAdd,Nat.reduceLT,Nat.reduceLeDiff,Nat.reduceEqDiff,hb3,z2',z3,z4,ha3,hrg,hix,tnR,hT,a1,a2,a3,a4,a5,a6,b1,b2,b4,b5,y2'',y3,y4',ad,ferry_ferrylaw12_SysShares_j3,beq_self_eq_true,arith_gtr,b6]) | (with_reducible ((first | apply xC | apply xG | apply xQ) <;> intro hb <;> try simp only [hb]))))
              exact ⟨hlt,fin⟩
            · (repeat' (first | (simp only [wp,extractV,w0,reduceIte,Nat.reduceAdd,Nat.reduceLT,Nat.reduceLeDiff,Nat.reduceEqDiff,hb3,z2',z3,z4,ha3,hrg,hix,tnR,hT,a1,a2,a3,a4,a5,a6,b1,b2,b4,b5,y2'',y3,y4',ad,ferry_ferrylaw12_SysShares_j3,beq_self_eq_true,arith_gtr,ad]) | (with_reducible ((first | apply xC | apply xG | apply xQ) <;> intro hb <;> try simp only [hb]))))
              exact ⟨hlt,fin⟩
        · have a5 : arithV .add (i64 cc) (i64 gave) = some (i64 (cc + gave)) := arith_add (by omega) (by omega)
          have a6:arithV .add (i64 k3) (i64 took) = some (i64 (k3 + took)):=arith_add (by omega) (by omega)
          have b1:((4294967293:Int) == 0) = false:=rfl
          have b2:decide (0 < ((W2:Nat):Int)) = false:=by rw [decide_eq_false_iff_not]; omega
          have b3:(k == 255) = true:=by simpa using hm1
          have b4:(cc + gave == k3 + took) = true:=by rw [beq_iff_eq]; omega
          have fin : Inv G L0 L1 n cc (i + 1) [i64 gave, i64 took, V.bool false, i64 ((i + 1 : Nat) : Int)] K3 :=
            ⟨_,_,t3,k3,a,b,c,d,x2,y2,z2,u2,v2,w2,g2,pr2,rfl,lc4,cr3,by omega,by omega,by omega,by omega⟩
          rcases b56 with ⟨b5,b6⟩ | b5
          · (repeat' (first | (simp only [wp,extractV,w0,reduceIte,Nat.reduceAdd,Nat.reduceLT,Nat.reduceLeDiff,Nat.reduceEqDiff,hb3,z2',z3,z4,ha3,hrg,hix,tnR,hT,a5,a6,b1,b2,b4,b5,y2'',y3,y4',ad,ferry_ferrylaw12_SysShares_j3,beq_self_eq_true,arith_gtr,b3,b6]) | (with_reducible ((first | apply xC | apply xG | apply xQ) <;> intro hb <;> try simp only [hb]))))
            exact ⟨hlt,fin⟩
          · (repeat' (first | (simp only [wp,extractV,w0,reduceIte,Nat.reduceAdd,Nat.reduceLT,Nat.reduceLeDiff,Nat.reduceEqDiff,hb3,z2',z3,z4,ha3,hrg,hix,tnR,hT,a5,a6,b1,b2,b4,b5,y2'',y3,y4',ad,ferry_ferrylaw12_SysShares_j3,beq_self_eq_true,arith_gtr,b3]) | (with_reducible ((first | apply xC | apply xG | apply xQ) <;> intro hb <;> try simp only [hb]))))
            exact ⟨hlt,fin⟩
      | true =>
        obtain ⟨t3,k3,r,m,d1,cr3,at3,rg3,hm⟩:=cr_take (c:=cc) cr2 at2 hs hr2
        have hD:=do_take hA 2 lc3.mp (crP_b hn.2) lc3.ms cr2.stB (cr2.stOk hn hcc) (at?_lt at2) (cr2.can hrun) rfl hss hK
        rw [d1] at hD
        simp only [ferry_ferrylaw12_SysShares_j4]
        (repeat' (first | (simp only [wp,extractV,w0,reduceIte,Nat.reduceAdd,Nat.reduceLT,Nat.reduceLeDiff,Nat.reduceEqDiff,hXl,hix,tnR,hT,hb0,hb1]) | (with_reducible ((first | apply xC | apply xG | apply xQ) <;> intro hb <;> try simp only [hb]))))
        refine hD.mono fun _ K2 ⟨l2,x2,y2,z2,u2,v2,w2,g2,pr2,er,ms2,f2,hge2⟩ => ?_
        subst er
        have el2:=ms2.eq
        subst el2
        have fk2:K2.floor = 0:=f2.floor.trans lc3.fl
        have nx2:=f2.next
        have nlt:=lc3.lt
        have hlx : lenV x2 = some (i64 (n : Nat)) := by
          have:=ms2.ps.len
          rw [List.length_map,show (crS t3 k3).t.ps.length = n from cr3.len] at this
          exact this
        have hlv:lenV v2 = some (i64 1):=ms2.sems.len
        have c1:¬ (K2.next = L1):=by omega
        have c2:¬ (L1 = K2.next):=by omega
        have c3:K2.floor ≤ K2.next:=by omega
        have c4:K2.floor ≤ L1:=by omega
        have c5:¬ (lv1 = K2.next):=by omega
        have hb2:=(f2.old L1 nlt.2.1 id).trans hb1
        have hv2:=(f2.old lv1 v6 id).trans v3
        (repeat' (first | (simp only [wp,extractV,w0,reduceIte,Nat.reduceAdd,Nat.reduceLT,Nat.reduceLeDiff,Nat.reduceEqDiff,eq_nili,hlx,hlv,c1,c2,c3,c4,c5,hb2,hv2,v2',v4',beq_self_eq_true]) | (with_reducible ((first | apply xC | apply xG | apply xQ) <;> intro hb <;> try simp only [hb]))))
        refine Run.gen (P:=fun K => Lc K L0 L1 (crP n cc) (crS t3 k3) a b c d x2 y2 z2 u2 v2 w2 g2 pr2) (lc3.next f2 ms2 hge2 rfl (Nat.le_succ _) ?_ ?_) fun K3 lc4 => ?_
        · rw [Heap.set_blk,if_pos rfl]
          all_goals rfl
        · intro q' h1 h2
          have h3:¬ (q' = K2.next):=by omega
          simp only [Heap.set_blk,Heap.add_blk,if_neg h2,if_neg h3]
        refine wn_loop3 lc4 cr3.stB cr3.len hn.2 ?_
        have hb3:=lc4.b1
        obtain ⟨lz,bz,z1,z2',z3,z4,z5,z6,z7,z8⟩:=lc4.at at3
        have hwr:Wp r:=cr3.wp r (at_mem at3)
        have hrg : (prRow r)[1]? = some (.int .u32 m) := by
          have:=prRow_reg hwr (n:=1) (by decide)
          rw [rg3] at this
          exact this
        have ha3:aidxV 16 1 (.ptr lz qq.toNat 0) (.int .i64 1) = some (.ptr lz qq.toNat 1):=aidx16 (n:=1) (by decide)
        obtain ⟨lq,bq,y1,y2',y3,y4,-⟩:=lc4.ms.sems.idx (k:=.i64) (i:=0) (show (0:Nat) < 1 by decide)
        have y2'':idxV 1 v2 (.int .i64 0) = some (.ptr lq 0 0):=y2'
        have y4':bq.rows[0]? = some [i64 k3]:=y4
        rw [show (crS t2 k).t = t2 from rfl,show (crS t3 k3).t = t3 from rfl]
        have hno:=cr3.wnk
        have hW2 : wn t2.ps ≤ 8 := by
          have:wn t2.ps ≤ t2.ps.length:=List.countP_le_length
          have:=cr2.len
          omega
        have hW3 : wn t3.ps ≤ 8 := by
          have:wn t3.ps ≤ t3.ps.length:=List.countP_le_length
          have:=cr3.len
          omega
        generalize wn t2.ps = W2 at *
        generalize wn t3.ps = W3 at *
        have hk3:=cr3.kk
        obtain ⟨hc0,hc1⟩:=id hcc
        have b56 : decide (0 < k3) = true ∧ decide (0 < ((W3 : Nat) : Int)) = false ∨ decide (0 < k3) = false := by
          by_cases h:0 < k3
          · exact .inl ⟨by simpa using h,by have:=hno h; rw [this]; rfl⟩
          · exact .inr (by simpa using h)
        have hps:=pr_state hwr
        have a5:arithV .add (i64 cc) (i64 gave) = some (i64 (cc + gave)):=arith_add (by omega) (by omega)
        rcases hm with ⟨h1,rfl,h3⟩ | ⟨h1,hm,h3⟩ | ⟨h1,h3⟩
        · have a1 : arithV .add (i64 took) (i64 1) = some (i64 (took + 1)) := arith_add (by omega) (by omega)
          have a6:arithV .add (i64 k3) (i64 (took + 1)) = some (i64 (k3 + (took + 1))):=arith_add (by omega) (by omega)
          have b1:(r.state == 1) = true:=by simpa using h1
          have b2:((0:Int) == 0) = true:=rfl
          have b4:(cc + gave == k3 + (took + 1)) = true:=by rw [beq_iff_eq]; omega
          have fin : Inv G L0 L1 n cc (i + 1) [i64 gave, i64 (took + 1), V.bool false, i64 ((i + 1 : Nat) : Int)] K3 :=
            ⟨_,_,t3,k3,a,b,c,d,x2,y2,z2,u2,v2,w2,g2,pr2,rfl,lc4,cr3,by omega,by omega,by omega,by omega⟩
          rcases b56 with ⟨b5,b6⟩ | b5
          · (repeat' (first | (simp only [wp,extractV,w0,reduceIte,Nat.reduceAdd,Nat.reduceLT,Nat.reduceLeDiff,Nat.reduceEqDiff,hb3,z2',z3,z4,ha3,hrg,hix,tnR,hT,a5,a6,b1,b2,b4,b5,y2'',y3,y4',ad,ferry_ferrylaw12_SysShares_j3,beq_self_eq_true,arith_gtr,a1,hps,b6]) | (with_reducible ((first | apply xC | apply xG | apply xQ) <;> intro hb <;> try simp only [hb]))))
            exact ⟨hlt,fin⟩
          · (repeat' (first | (simp only [wp,extractV,w0,reduceIte,Nat.reduceAdd,Nat.reduceLT,Nat.reduceLeDiff,Nat.reduceEqDiff,hb3,z2',z3,z4,ha3,hrg,hix,tnR,hT,a5,a6,b1,b2,b4,b5,y2'',y3,y4',ad,ferry_ferrylaw12_SysShares_j3,beq_self_eq_true,arith_gtr,a1,hps]) | (with_reducible ((first | apply xC | apply xG | apply xQ) <;> intro hb <;> try simp only [hb]))))
            exact ⟨hlt,fin⟩
        · have a6 : arithV .add (i64 k3) (i64 took) = some (i64 (k3 + took)) := arith_add (by omega) (by omega)
          have b1:(r.state == 1) = true:=by simpa using h1
          have b4:(cc + gave == k3 + took) = true:=by rw [beq_iff_eq]; omega
          have fin : Inv G L0 L1 n cc (i + 1) [i64 gave, i64 took, V.bool false, i64 ((i + 1 : Nat) : Int)] K3 :=
            ⟨_,_,t3,k3,a,b,c,d,x2,y2,z2,u2,v2,w2,g2,pr2,rfl,lc4,cr3,by omega,by omega,by omega,by omega⟩
          rcases hm with rfl | rfl
          · have b2 : ((4294967294 : Int) == 0) = false := rfl
            rcases b56 with ⟨b5,b6⟩ | b5
            · (repeat' (first | (simp only [wp,extractV,w0,reduceIte,Nat.reduceAdd,Nat.reduceLT,Nat.reduceLeDiff,Nat.reduceEqDiff,hb3,z2',z3,z4,ha3,hrg,hix,tnR,hT,a5,a6,b1,b2,b4,b5,y2'',y3,y4',ad,ferry_ferrylaw12_SysShares_j3,beq_self_eq_true,arith_gtr,hps,b6]) | (with_reducible ((first | apply xC | apply xG | apply xQ) <;> intro hb <;> try simp only [hb]))))
              exact ⟨hlt,fin⟩
            · (repeat' (first | (simp only [wp,extractV,w0,reduceIte,Nat.reduceAdd,Nat.reduceLT,Nat.reduceLeDiff,Nat.reduceEqDiff,hb3,z2',z3,z4,ha3,hrg,hix,tnR,hT,a5,a6,b1,b2,b4,b5,y2'',y3,y4',ad,ferry_ferrylaw12_SysShares_j3,beq_self_eq_true,arith_gtr,hps]) | (with_reducible ((first | apply xC | apply xG | apply xQ) <;> intro hb <;> try simp only [hb]))))
              exact ⟨hlt,fin⟩
          · have b2 : ((4294967295 : Int) == 0) = false := rfl
            have b3:((4294967295:Int) == 4294967294) = false:=rfl
            rcases b56 with ⟨b5,b6⟩ | b5
            · (repeat' (first | (simp only [wp,extractV,w0,reduceIte,Nat.reduceAdd,Nat.reduceLT,Nat.reduceLeDiff,Nat.reduceEqDiff,hb3,z2',z3,z4,ha3,hrg,hix,tnR,hT,a5,a6,b1,b2,b4,b5,y2'',y3,y4',ad,ferry_ferrylaw12_SysShares_j3,beq_self_eq_true,arith_gtr,hps,b3,b6]) | (with_reducible ((first | apply xC | apply xG | apply xQ) <;> intro hb <;> try simp only [hb]))))
              exact ⟨hlt,fin⟩
            · (repeat' (first | (simp only [wp,extractV,w0,reduceIte,Nat.reduceAdd,Nat.reduceLT,Nat.reduceLeDiff,Nat.reduceEqDiff,hb3,z2',z3,z4,ha3,hrg,hix,tnR,hT,a5,a6,b1,b2,b4,b5,y2'',y3,y4',ad,ferry_ferrylaw12_SysShares_j3,beq_self_eq_true,arith_gtr,hps,b3]) | (with_reducible ((first | apply xC | apply xG | apply xQ) <;> intro hb <;> try simp only [hb]))))
              exact ⟨hlt,fin⟩
        · have a6 : arithV .add (i64 k3) (i64 took) = some (i64 (k3 + took)) := arith_add (by omega) (by omega)
          have b1:(r.state == 1) = false:=by rw [beq_eq_false_iff_ne]; omega
          have b2:((0:Int) == 0) = true:=rfl
          have b4:(cc + gave == k3 + took) = true:=by rw [beq_iff_eq]; omega
          have fin : Inv G L0 L1 n cc (i + 1) [i64 gave, i64 took, V.bool false, i64 ((i + 1 : Nat) : Int)] K3 :=
            ⟨_,_,t3,k3,a,b,c,d,x2,y2,z2,u2,v2,w2,g2,pr2,rfl,lc4,cr3,by omega,by omega,by omega,by omega⟩
          rcases b56 with ⟨b5,b6⟩ | b5
          · (repeat' (first | (simp only [wp,extractV,w0,reduceIte,Nat.reduceAdd,Nat.reduceLT,Nat.reduceLeDiff,Nat.reduceEqDiff,hb3,z2',z3,z4,ha3,hrg,hix,tnR,hT,a5,a6,b1,b2,b4,b5,y2'',y3,y4',ad,ferry_ferrylaw12_SysShares_j3,beq_self_eq_true,arith_gtr,hps,b6]) | (with_reducible ((first | apply xC | apply xG | apply xQ) <;> intro hb <;> try simp only [hb]))))
            exact ⟨hlt,fin⟩
          · (repeat' (first | (simp only [wp,extractV,w0,reduceIte,Nat.reduceAdd,Nat.reduceLT,Nat.reduceLeDiff,Nat.reduceEqDiff,hb3,z2',z3,z4,ha3,hrg,hix,tnR,hT,a5,a6,b1,b2,b4,b5,y2'',y3,y4',ad,ferry_ferrylaw12_SysShares_j3,beq_self_eq_true,arith_gtr,hps]) | (with_reducible ((first | apply xC | apply xG | apply xQ) <;> intro hb <;> try simp only [hb]))))
            exact ⟨hlt,fin⟩
    · have es:((t.ps[qq.toNat]).state == 1) = false:=by simpa using hs
      (repeat' (first | (simp only [wp,extractV,w0,reduceIte,Nat.reduceAdd,Nat.reduceLT,Nat.reduceLeDiff,Nat.reduceEqDiff,hXl,l1,hix,tnR,r1,r2,r3,rn,hb1,g2,g3,g4,pr_state hw,es,ad]) | (with_reducible ((first | apply xC | apply xG | apply xQ) <;> intro hb <;> try simp only [hb]))))
      exact ⟨hlt,gave,took,t,k,a,b,c,d,x,y,z,u,v,w,g,pr,rfl,lc,cr,e1,e2,by omega,e4⟩
  · have l1:decide (((i:Nat):Int) < ((sc.length:Nat):Int)) = false:=by rw [decide_eq_false_iff_not]; omega
    (repeat' (first | (simp only [wp,extractV,w0,reduceIte,Nat.reduceAdd,Nat.reduceLT,Nat.reduceLeDiff,Nat.reduceEqDiff,hXl,l1]) | (with_reducible ((first | apply xC | apply xG | apply xQ) <;> intro hb <;> try simp only [hb]))))
    exact q _ _
end Sy
end Go.Fv.Tr
namespace Go.Fv.Tr
open Go Go.Fv Go.Fv.Pl Go.Proofs
variable {G:GV}
namespace Sy
theorem lc_first {p:Pn} {s:St} {x y z a b c d u v w g:V} {pr:List (List V)} {H K:Heap} {M:Nat} (mp:MP H [i64 p.id,.bool p.mob,a,b,c,i64 p.ev,d] p a b c d) (ms:MS H [i64 s.id,i64 s.fr,i64 s.ep,x,y,z,u,v,w,g] s x y z u v w g pr) (fl:H.floor = 0)
  (hlp:∀ n ∈ lv [a,b,c,d],0 ≤ n ∧ n < M) (hls:∀ n ∈ lv [x,y,z,u,v,w,g] ++ lr pr,M ≤ n) (hf:K.floor = H.floor) (hn:K.next = H.next + 1 + 1)
  (hb0:K.blk H.next = some ⟨7,[[i64 p.id,.bool p.mob,a,b,c,i64 p.ev,d]]⟩) (hb1:K.blk (H.next + 1) = some ⟨10,[[i64 s.id,i64 s.fr,i64 s.ep,x,y,z,u,v,w,g]]⟩) (ho:∀ q,q < H.next → K.blk q = H.blk q) :
  Lc K H.next (H.next + 1) p s a b c d x y z u v w g pr:=by
 have f2:Frame H K (fun _ => False):=⟨by omega,hf,fun q h1 _ => ho q h1⟩
 refine ⟨f2.floor.trans fl,hb0,hb1,⟨by omega,by omega,by omega⟩,mp.frame f2 fun _ _ => id,ms.frame f2 fun _ _ => id,fun m hm => ?_,fun m hm => ?_⟩
 ·have h1:=hlp m hm
  have h2:m < H.next:=by
   obtain ⟨q,hq,hl⟩:=mem_lv.1 hm
   simp only [List.mem_cons,List.not_mem_nil,or_false] at hq
   rcases hq with rfl | rfl | rfl | rfl
   ·exact mp.pages.loc_lt hl
   ·exact mp.procs.loc_lt hl
   ·exact mp.ports.loc_lt hl
   ·exact mp.sems.loc_lt hl
  exact ⟨by omega,by omega,by omega⟩
 ·have h1:=ms.lt hm
  have h2:=hls m hm
  exact ⟨by omega,by omega,fun g => by have:=(hlp m g).2; omega⟩
set_option maxRecDepth 20000 in
set_option maxHeartbeats 4000000 in
theorem shares_run (hA:BErrs G) (hk:callV (cfg G) (sem (cfg G) 13) 8 [] = M.ret (.bool true)) {X:V} {sc:List Tn} (hX:Sls X 3 (sc.map tnR)) (hsc:sc.length ≤ room) (hlate:∀ t ∈ sc,RegOk t.late) (p0 c0:Int) :
  Run (sem (cfg G) 14 3 [X,i64 p0,i64 c0]) Heap.empty fun v _ => v = .bool true:=by
 rw [ferry_ferrylaw12_SysShares_eq]
 simp only [ferry_ferrylaw12_SysShares]
 obtain ⟨q,q1,q2,wv,r1,r2,r3⟩:=rem_n (t0:=p0) (n:=8) (by omega)
 obtain ⟨cc,d1,d2,wc,s1,s2,s3⟩:=rem_n (t0:=c0) (n:=256) (by omega)
 have hn:∃ n:Nat,(1 ≤ n ∧ n ≤ 8) ∧ arithV .add (i64 1) (i64 q) = some (i64 (n:Nat)):=by
  refine ⟨(1 + q).toNat,by omega,?_⟩
  rw [arith_add (by omega) (by omega)]
  congr 3
  omega
 obtain ⟨n,hn,ha⟩:=hn
 have hcc:CtOk cc:=⟨d1,by omega⟩
 (repeat' (first | (simp only [wp,extractV,w0,reduceIte,Nat.reduceAdd,Nat.reduceLT,Nat.reduceLeDiff,Nat.reduceEqDiff,hk,r1,r2,r3,s1,s2,s3,ha]) | (with_reducible ((first | apply xC | apply xG | apply xQ) <;> intro hb <;> try simp only [hb]))))
 refine (crew_new hn cc (Nat.le_refl _)).mono fun r H1 ⟨M,lp,a,b,c,d,ls,x,y,z,u,v,w,g,pr,er,mp,ms,f1,hlp,hls⟩ => ?_
 subst er
 have em:=mp.eq
 have es:=ms.eq
 subst em es
 have fl1:H1.floor = 0:=f1.floor
 have n01:¬ (H1.next = H1.next + 1):=by omega
 have n02:¬ (H1.next + 1 = H1.next):=by omega
 have fl2:H1.floor ≤ H1.next + 1:=by omega
 have fl3:H1.floor ≤ H1.next:=by omega
 (repeat' (first | (simp only [wp,extractV,w0,reduceIte,Nat.reduceAdd,Nat.reduceLT,Nat.reduceLeDiff,Nat.reduceEqDiff,fl2,fl3,n01,n02]) | (with_reducible ((first | apply xC | apply xG | apply xQ) <;> intro hb <;> try simp only [hb]))))
 refine Run.gen (P:=fun K => Lc K H1.next (H1.next + 1) (crP n cc) (crS (crT n) cc) a b c d x y z u v w g pr) (lc_first mp ms fl1 hlp hls rfl rfl ?_ ?_ ?_) fun K lc => ?_
 ·rw [Heap.set_blk,if_neg n01,Heap.set_blk,if_pos rfl]
 ·rw [Heap.set_blk,if_pos rfl]
 ·intro q' h1
  have h2:¬ (q' = H1.next):=by omega
  have h3:¬ (q' = H1.next + 1):=by omega
  simp only [Heap.set_blk,Heap.add_blk,Heap.add_next,if_neg h2,if_neg h3]
 refine shares_loop hA hn hcc hX hsc hlate (L0:=H1.next) (L1:=H1.next + 1) ⟨0,0,crT n,cc,a,b,c,d,x,y,z,u,v,w,g,pr,rfl,lc,crT_ok hn.2 hcc,by omega,by omega,by omega,by omega⟩ fun r H' => ?_
 (repeat' (first | (simp only [wp,extractV,w0,reduceIte,Nat.reduceAdd,Nat.reduceLT,Nat.reduceLeDiff,Nat.reduceEqDiff]) | (with_reducible ((first | apply xC | apply xG | apply xQ) <;> intro hb <;> try simp only [hb]))))
end Sy
end Go.Fv.Tr
namespace Go.Fv.Tr
open Go Go.Fv Go.Proofs
set_option maxRecDepth 100000
noncomputable def CC:=cfg GX
theorem rulesC (call:CV) (x0:V):fnVc CC call 100 104 [x0] = outV (ferry_valid_asked_rules GX call x0):=by kernel_rfl
noncomputable def ovR:FuncId → (FuncId → List V → M V) → List V → Option (M V):=fun f call args => if f = 104 then (match args with | [x0] => some (outV (ferry_valid_asked_rules GX call x0)) | _ => none) else none
theorem ovR_ok:OvOk CC 100 ovR:=fun f call args m h => by
 unfold ovR at h
 split at h
 ·rename_i e
  subst e
  split at h
  ·injection h with h
   rw [← h,rulesC]
  ·cases h
 ·cases h
theorem knownX:playsTrueO CC ovR 100 13 8 [] = true:=by kernel_rfl
theorem known_run:callV (cfg GX) (sem (cfg GX) 13) 8 [] = M.ret (.bool true):=by
 obtain ⟨H',e⟩:=plays_trueO ovR_ok knownX
 exact callV_pure0 rfl rfl rfl ⟨_,H',e,rfl⟩
end Go.Fv.Tr
namespace Go.Proofs.YtekncgjkocgioaaGreatDoor
open Go Go.Fv Go.Fv.Tr Go.ChangeShapes Go.WideShapes Go.RowKit
section
variable {P:Program} {n:Nat}
theorem shs1 {t1 : TypeId} {xs : List V} (h : Shs P n [t1] xs) : ∃ a, xs = [a] ∧ ∃ l, Sh P n t1 l ∧ a = argV P t1 l := by
  cases xs with
  | nil => exact h.elim
  | cons a xs => cases xs with
    | nil => exact ⟨a,rfl,h.1⟩
    | cons b xs => exact h.2.elim
theorem shs2 {t1 t2 : TypeId} {xs : List V} (h : Shs P n [t1, t2] xs) : ∃ a b, xs = [a, b] ∧ (∃ l, Sh P n t1 l ∧ a = argV P t1 l) ∧ ∃ l, Sh P n t2 l ∧ b = argV P t2 l := by
  cases xs with
  | nil => exact h.elim
  | cons a xs =>
    obtain ⟨b,rfl,h2⟩:=shs1 (P:=P) (n:=n) (t1:=t2) (xs:=xs) h.2
    exact ⟨a,b,rfl,h.1,h2⟩
end
set_option maxRecDepth 100000 in
theorem sh_i {n:Nat} {l:List V} (h:Sh Tryz.prog (n + 1) 3 l):∃ m:Int,l = [.int .i64 m] ∧ (Lit.int .i64 m).wf = true:=by
 obtain ⟨m,hm,rfl⟩:=sh_int Tryz.underlying3 h
 exact ⟨m,rfl,hm⟩
theorem argVI (x:V):argV Tryz.prog 3 [x] = x:=by
 unfold argV
 rw [Tryz.underlying3]
 rfl
theorem inI:inTy Tryz.prog 5 3 = true:=by kernel_rfl
theorem shs3 {P : Program} {n : Nat} {t1 t2 t3 : TypeId} {xs : List V} (h : Shs P n [t1, t2, t3] xs) : ∃ a b c, xs = [a, b, c] ∧ (∃ l, Sh P n t1 l ∧ a = argV P t1 l) ∧ (∃ l, Sh P n t2 l ∧ b = argV P t2 l) ∧ ∃ l, Sh P n t3 l ∧ c = argV P t3 l := by
  cases xs with
  | nil => exact h.elim
  | cons a xs =>
    obtain ⟨b,c,rfl,h2,h3⟩:=shs2 (P:=P) (n:=n) (t1:=t2) (t2:=t3) (xs:=xs) h.2
    exact ⟨a,b,c,rfl,h.1,h2,h3⟩
theorem clI:Tryz.prog.cellsOf 3 = 1:=by kernel_rfl
theorem clB:Tryz.prog.cellsOf 4 = 1:=by kernel_rfl
theorem clU:Tryz.prog.cellsOf 40 = 1:=by kernel_rfl
theorem cl_tn:Tryz.prog.cellsOf 42 = 3:=by kernel_rfl
theorem by_tn:Tryz.prog.bytesOf 42 = 16:=by kernel_rfl
theorem ln_tn {α:Type} {l:List α} (h:l.length = 3):∃ a0 a1 a2,l = [a0,a1,a2]:=by
 match l,h with
 | [a0,a1,a2],_ => exact ⟨_,_,_,rfl⟩
set_option maxRecDepth 100000 in
theorem sh_tn {n:Nat} {r:List V} (h:Sh Tryz.prog (n + 2) 42 r):∃ p:Sy.Tn,r = Sy.tnR p ∧ (Lit.int .i64 p.proc).wf = true ∧ (Lit.int .u32 p.late).wf = true:=by
 obtain ⟨h1,h2⟩:=sh_struct Tryz.underlying42 h
 rw [cl_tn] at h1
 obtain ⟨a0,a1,a2,rfl⟩:=ln_tn h1
 simp [clI,clB,clU] at h2
 obtain ⟨g0,g1,g2⟩:=h2
 obtain ⟨m0,w0,e0⟩:=sh_int Tryz.underlying3 g0
 obtain ⟨m1,e1⟩:=sh_bool Tryz.underlying4 g1
 obtain ⟨m2,w2,e2⟩:=sh_int Tryz.underlying40 g2
 cases e0; cases e1; cases e2
 exact ⟨⟨m0,m1,m2⟩,rfl,w0,w2⟩
theorem u_of {m:Int} (hm:(Lit.int .u32 m).wf = true):Sy.RegOk m:=by
 unfold Lit.wf IntKind.min IntKind.max at hm
 simp [IntKind.signed,IntKind.bits] at hm
 exact ⟨by omega,by omega⟩
set_option maxRecDepth 100000 in
theorem sl_tn {n:Nat} {l:List V} (h:Sh Tryz.prog (n + 3) 22 l):∃ (x:V) (ps:List Sy.Tn),l = [x] ∧ Sls x 3 (ps.map Sy.tnR) ∧ ps.length ≤ room ∧ ∀ p ∈ ps,Sy.RegOk p.late:=by
 obtain ⟨z,r,e,s,l,b,q⟩:=sh_slice Tryz.underlying22 h
 obtain ⟨ps,rfl,w⟩:=choose_map (f:=Sy.tnR) (W:=fun p => Sy.RegOk p.late) fun r hr => (sh_tn (q r hr)).imp fun p h => ⟨h.1,u_of h.2.2⟩
 rw [cl_tn] at s
 rw [List.length_map,by_tn] at b
 refine ⟨z,ps,e,s,?_,w⟩
 have:reachBytes ≤ room:=of_decide_eq_true (by kernel_rfl)
 omega
theorem argVTs (x:V):argV Tryz.prog 22 [x] = x:=by
 unfold argV
 rw [Tryz.underlying22]
 rfl
theorem inTs:inTy Tryz.prog 5 22 = true:=by kernel_rfl
theorem berrsX:Sy.BErrs GX:=⟨fun g h => by
 have h':laidL.contains g = true:=by
  unfold Sy.isB at h
  simp [Sy.sentB] at h
  rcases h with rfl | rfl | rfl | rfl | rfl | rfl | rfl | rfl | rfl <;> rfl
 unfold GX
 rw [if_pos h']⟩
end Go.Proofs.YtekncgjkocgioaaGreatDoor
