/-
  A process reads at a port. By an AI agent; no person has read it.
-/
import Derived.Test.YtekncgjkocgioaaGreatDoorFvP39
set_option linter.unusedVariables false
set_option linter.unusedSimpArgs false
set_option linter.unusedSectionVars false
/-! A process reads at a port. -/
namespace Go.Fv.Tr
open Go Go.Fv Go.Fv.Pl Go.Proofs
variable {G:GV}
namespace Sy
variable {l m:List V} {s:St} {p:Pn} {x y z a b c d x' y' z' u v w g:V} {pr:List (List V)} {k:List V} {H H' K:Heap} {i:Nat} {pc tk ft:Int} {rep:V}
def gotten (s:St) (pc:Int) (n:Nat) (m0:ByteArray) (ms:List ByteArray):St :=
 setR (setR { s with pages:=inP s.pages (regAt s pc 2).toNat m0.data.toList,ports:=s.ports.set n ⟨ms,0⟩ } pc 1 (m0.size:Nat)) pc 2 1
def doRead (s:St) (pc:Int) (n:Nat) (r:Po):St:=match r.msgs with
 | [] => setR s pc 1 4294967292
 | m0 :: ms => gotten s pc n m0 ms
set_option maxRecDepth 20000 in
set_option maxHeartbeats 2000000 in
theorem read_run (hA:BErrs G) (nn:Nat) (h:ClX H i p s pc tk rep ft a b c d x y z u v w g pr) (hf:H.floor = 0) (hc:Can s pc tk) {n:Nat} (hn:regAt s pc 1 = (n:Nat)) {q:Tp} {r:Po} (hq:p.ports[n]? = some q) (hr:s.ports[n]? = some r) (hqk:q.kind = 3) (hT:TpOk q) (hh:holdOk q r) (hag:ageOk q r)
  (hsp:∀ m0 ms,r.msgs = m0 :: ms → spanB s.pages 2 5 (regAt s pc 2).toNat m0.size = 0) :
  Run (callV (cfg G) (sem (cfg G) (nn + 10)) 51 [.ptr i 0 0]) H fun r' H' => r' = .tuple [] ∧ Cl H i p (doRead s pc n r) pc tk rep ft (fp i x y z u v w g pr) H':=by
 have hb:=h.blk
 obtain ⟨lp,pn⟩:=h.pn
 obtain ⟨hnp,eq⟩:=List.getElem?_eq_some_iff.1 hq
 have hlen:lenV c = some (i64 (p.ports.length:Int)):=by rw [pn.ports.len,List.length_map]
 have hbig:(p.ports.length:Int) ≤ 9223372036854775807:=by have:=pn.big.2.2.1; unfold big at this; omega
 have hix:=pn.ports.idx (k:=.i64) (i:=n) (by rw [List.length_map]; exact hnp)
 rw [List.getElem_map,eq] at hix
 rw [callV_inl rfl,ferry_sys_caller_read_eq]
 simp only [ferry_sys_caller_read]
 (repeat' (first | (simp only [wp,extractV,w0,reduceIte,Nat.reduceAdd,Nat.reduceLT,Nat.reduceLeDiff,Nat.reduceEqDiff,hb,nil_ptr,hlen]) | (with_reducible ((first | apply xC | apply xG | apply xQ) <;> intro hb <;> try simp only [hb]))))
 refine index_run (nn + 7) h hf (hc.reg 1 (by decide)) ⟨Int.natCast_nonneg _,hbig⟩ (fun _ => ?_) fun g1 => absurd g1 (by rw [hn]; omega)
 rw [hn]
 (repeat' (first | (simp only [wp,extractV,w0,reduceIte,Nat.reduceAdd,Nat.reduceLT,Nat.reduceLeDiff,Nat.reduceEqDiff]) | (with_reducible ((first | apply xC | apply xG | apply xQ) <;> intro hb <;> try simp only [hb]))))
 refine (isOne_run (nn + 7) h hq (k1:=1) (k2:=3) (.inr hqk)).mono fun r0 H0 ⟨e1,e2⟩ => ?_
 subst e1 e2
 obtain ⟨r20,r21⟩:=hc.reg 2 (by decide)
 obtain ⟨a2,ha2⟩:∃ a2:Nat,regAt s pc 2 = (a2:Nat):=⟨(regAt s pc 2).toNat,by omega⟩
 have hrm:room = 140737488355328:=rfl
 have hdep:q.depth ≤ 8:=by have h1:=hT.2.2.1.2; split at h1 <;> omega
 have hmr:r.msgs.length * 16 ≤ room:=by have h1:=hh.1; omega
 obtain ⟨lw,bw,row,w1,w2,w3,w4,w5,w6,w7,w8,w9,w10,w11,w12⟩:=clPort h hr
 obtain ⟨mv,rfl,om,hml⟩:=id w7
 (repeat' (first | (simp only [wp,extractV,w0,reduceIte,Nat.reduceAdd,Nat.reduceLT,Nat.reduceLeDiff,Nat.reduceEqDiff,hb,nil_ptr,hix,tp_len,tp_take,w2,w3,w4]) | (with_reducible ((first | apply xC | apply xG | apply xQ) <;> intro hb <;> try simp only [hb]))))
 refine Run.qAll (P:=fun v K' => (r.msgs = [] ∧ ∃ mv,v = .tuple [.agg [mv,i64 0],.str ⟨#[]⟩,.bool false,errV 16] ∧ Own K' mv 1 [] ∧ ∀ l,loc mv = some l → H0.next ≤ l) ∨
   ∃ m0 l mv,r.msgs = m0 :: l ∧ v = .tuple [.agg [mv,i64 0],.str m0,.bool true,.nili] ∧ Own K' mv 1 (l.map stR) ∧ ∀ l,loc mv = some l → H0.next ≤ l) (fun q hq => visB_low hq _) (fun K k1 k2 k3 => ?_) fun v1 K' H1 hv f1 hb1 hn1 => ?_
 ·obtain ⟨row',er,hrow⟩:=po_thaw (K:=K) w7 k3
  refine Run.callOwn rfl (bs:=[.agg (tpR q),.agg row']) ?_ ?_ ((get_run hA (nn + 3) hrow hT hh hag hqk hmr k2).mono fun v1 K' hv => ?_)
  ·simp only [List.mapM_cons,List.mapM_nil,er,thawV_closed (tp_closedV q)]
   rfl
  ·simp only [List.all_cons,List.all_nil,hrow.closedV,tp_closedV]
   rfl
  ·rcases hv with ⟨e1,mv',e2,o,f,l⟩ | ⟨m0,ms,mv',e1,e2,o,f,l⟩
   ·exact ⟨f,.inl ⟨e1,mv',e2,o,fun t ht => by rw [← k1]; exact l t ht⟩⟩
   ·exact ⟨f,.inr ⟨m0,ms,mv',e1,e2,o,fun t ht => by rw [← k1]; exact l t ht⟩⟩
 have hx1:=h.frame f1 fun _ _ => id
 have fl1:H1.floor = 0:=f1.floor.trans hf
 have nx1:=f1.next
 have g3:H1.floor ≤ H1.next:=by rw [fl1]; exact Nat.zero_le _
 unfold doRead
 rcases hv with ⟨e1,m',e2,o,l⟩ | ⟨m0,ms,m',e1,e2,o,l⟩
 ·subst e2
  rw [e1]
  (repeat' (first | (simp only [wp,extractV,w0,reduceIte,Nat.reduceAdd,Nat.reduceLT,Nat.reduceLeDiff,Nat.reduceEqDiff,g3,eq_err]) | (with_reducible ((first | apply xC | apply xG | apply xQ) <;> intro hb <;> try simp only [hb]))))
  have f12:Frame H1 ((H1.add ⟨2,[[V.nils,V.int .i64 0]]⟩).set H1.next ⟨2,[[m',i64 0]]⟩) (fun _ => False):=(Frame.add _ _).st (Nat.le_refl _) _
  refine (answer_run (nn + 8) (hx1.frame f12 fun _ _ => id) fl1 _).mono fun r' H4 ⟨_,hC4⟩ => ?_
  (repeat' (first | (simp only [wp,extractV,w0,reduceIte,Nat.reduceAdd,Nat.reduceLT,Nat.reduceLeDiff,Nat.reduceEqDiff]) | (with_reducible ((first | apply xC | apply xG | apply xQ) <;> intro hb <;> try simp only [hb]))))
  exact cl_comp (F1:=fp i x y z u v w g pr) (fun q hq => .inl hq) ((f1.tr f12).mono fun _ _ g => g.elim) hC4
 ·subst e2
  have hsp:=hsp m0 ms e1
  rw [e1]
  dsimp only
  unfold gotten
  rw [ha2,Int.toNat_natCast] at hsp ⊢
  rw [ha2] at r21
  have o1:Own H1 m' 1 (ms.map stR):=own_fl o hb1 hn1 fun t ht => by rw [fl1]; exact Nat.zero_le _
  have hbi:=hx1.blk
  have hi1:=hx1.lt
  have g4:¬ (i = H1.next):=by omega
  (repeat' (first | (simp only [wp,extractV,w0,reduceIte,Nat.reduceAdd,Nat.reduceLT,Nat.reduceLeDiff,Nat.reduceEqDiff,g3,eq_nili,hbi,g4]) | (with_reducible ((first | apply xC | apply xG | apply xQ) <;> intro hb <;> try simp only [hb]))))
  have f12:Frame H1 ((H1.add ⟨2,[[V.nils,V.int .i64 0]]⟩).set H1.next ⟨2,[[m',i64 0]]⟩) (fun _ => False):=(Frame.add _ _).st (Nat.le_refl _) _
  have bA:((H1.add ⟨2,[[V.nils,V.int .i64 0]]⟩).set H1.next ⟨2,[[m',i64 0]]⟩).blk H1.next = some ⟨2,[[m',i64 0]]⟩:=by rw [Heap.set_blk,if_pos rfl]
  have nA:((H1.add ⟨2,[[V.nils,V.int .i64 0]]⟩).set H1.next ⟨2,[[m',i64 0]]⟩).next = H1.next + 1:=rfl
  generalize (H1.add ⟨2,[[V.nils,V.int .i64 0]]⟩).set H1.next ⟨2,[[m',i64 0]]⟩ = H2 at *
  have hx2:=hx1.frame f12 fun _ _ => id
  refine reg_q (nn + 8) hx2 (n:=2) (by decide) (fun q hq => visB_low (by omega) _) fun H3 n3 f23 => ?_
  rw [ha2]
  have hx3:=hx2.frame f23 fun _ _ => id
  obtain ⟨l3,ms3⟩:=hx3.ms
  have f13:=f12.tr f23
  have fl3:H3.floor = 0:=f13.floor.trans fl1
  have hbs:V.str m0 = .str (bs m0.data.toList):=by rw [bs_toList]
  have hsz:m0.data.toList.length = m0.size:=by
   have:=bs_size m0.data.toList
   rw [bs_toList] at this
   exact this.symm
  have hml0:m0.size ≤ room:=by
   have h1:=hh.2 m0 (by rw [e1]; exact List.mem_cons_self ..)
   have h2:=hT.2.1.2
   omega
  rw [← hsz] at hsp
  refine NewT_a (T:=fun yy => .tuple [yy,i64 0]) (sz:=66) (rows:=(inP s.pages a2 m0.data.toList).map paR) (fun q hq => visB_low (by omega) _) (by rw [fl3]; exact Nat.zero_le _) (fun K k1 k2 k3 => ?_) fun g' H4 o4 f34 l4 => ?_
  ·obtain ⟨yy,er,hs⟩:=thawV_at ms3.pages (flat_pas _) k3
   rw [hbs]
   refine Run.callOwn rfl (bs:=[yy,.int .u32 (a2:Nat),.str (bs m0.data.toList)]) ?_ ?_ ((in_run (nn + 6) hs h.sb.pages h.sb.data (by omega) (by rw [hsz]; exact hml0) k2).mono fun v2 K' ⟨y2,e3,h3⟩ => ?_)
   ·simp only [List.mapM_cons,List.mapM_nil,er]
    rfl
   ·simp only [List.all_cons,List.all_nil,hs.closedV]
    rfl
   ·rw [hsp] at e3 h3
    exact ⟨y2,e3,h3⟩
  ·have f24:=f23.tr f34
   have hx4:=hx2.frame f24 fun _ _ => id
   have fl4:H4.floor = 0:=f34.floor.trans fl3
   (repeat' (first | (simp only [wp,extractV,w0,reduceIte,Nat.reduceAdd,Nat.reduceLT,Nat.reduceLeDiff,Nat.reduceEqDiff,beq_self_eq_true]) | (with_reducible ((first | apply xC | apply xG | apply xQ) <;> intro hb <;> try simp only [hb]))))
   obtain ⟨y4,er4,hs4⟩:=thawV_at (K:=H4) o4 (flat_pas _) fun _ _ => rfl
   have hpl:=inP_length m0.data.toList s.pages a2
   refine Run.callOwn rfl (bs:=[y4]) (by simp only [List.mapM_cons,List.mapM_nil,er4]; rfl) (by simp only [List.all_cons,List.all_nil,hs4.closedV]; rfl) ((copyPages (nn + 7) hs4 (by rw [hpl]; exact h.sb.pages) (by rw [fl4]; exact Nat.zero_le _)).mono fun g2 H5 ⟨o5,f45,l5⟩ => ?_)
   have hx5:=hx4.frame f45 fun _ _ => id
   have hb5:=hx5.blk
   have fl5:H5.floor = 0:=f45.floor.trans fl4
   have g5:H5.floor ≤ i:=by rw [fl5]; exact Nat.zero_le _
   have f25:=f24.tr f45
   have f05:=(f1.tr f12).tr f25
   have nx25:=f25.next
   have nx45:=f45.next
   have nx24:=f24.next
   have bA5:=(f25.old H1.next (by omega) id).trans bA
   have w35:=(f05.old lw w11 id).trans w3
   have g6:H5.floor ≤ lw:=by rw [fl5]; exact Nat.zero_le _
   have g7:¬ (H1.next = i):=fun e => g4 e.symm
   have g8:¬ (lw = i):=w10
   have g9:¬ (i = lw):=fun e => w10 e.symm
   have cz:convI .u32 (i64 (m0.size:Nat)) = some (.int .u32 (m0.size:Nat)):=conv_u32a (by omega) (by have h1:=hh.2 m0 (by rw [e1]; exact List.mem_cons_self ..); have h2:=hT.2.1.2; omega)
   (repeat' (first | (simp only [wp,extractV,w0,reduceIte,Nat.reduceAdd,Nat.reduceLT,Nat.reduceLeDiff,Nat.reduceEqDiff,hb5,nil_ptr,g5,g6,g7,g8,g9,bA5,w2,w35,w4,o5.cells,lenS_str,cz]) | (with_reducible ((first | apply xC | apply xG | apply xQ) <;> intro hb <;> try simp only [hb]))))
   have hx6:=putPages hx5 o5 hpl (inP_data _ _ _ h.sb.data) fun t ht hm => by
    have h1:=l5 t ht
    have h2:=hx4.lt_fp hm
    omega
   have f56:Frame H5 (H5.set i ⟨21,[[i64 p.id,.bool p.mob,a,b,c,i64 p.ev,d,i64 s.id,i64 s.fr,i64 s.ep,x,y,z,u,v,w,g2,i64 pc,i64 tk,rep,i64 ft]]⟩) (fun m => m = i):=Frame.set _ _ rfl
   have o15:=(o1.frame f12 fun _ _ => id).frame f25 fun _ _ => id
   have w36:(H5.set i ⟨21,[[i64 p.id,.bool p.mob,a,b,c,i64 p.ev,d,i64 s.id,i64 s.fr,i64 s.ep,x,y,z,u,v,w,g2,i64 pc,i64 tk,rep,i64 ft]]⟩).blk lw = some bw:=by rw [Heap.set_blk,if_neg g8]; exact w35
   have hi0:=h.lt
   have hx7:=putPort (q:=⟨ms,0⟩) hx6 hr w1 w36 (o15.frame f56 fun t ht e => by have:=l t ht; omega) (by show ms.length * 16 ≤ room; rw [e1,List.length_cons] at hmr; omega) fun t ht hm => by
    have h1:=l t ht
    have h2:=o1.loc_lt ht
    rcases putPages_fp hm with h3 | h3
    ·have:=h.lt_fp h3
     omega
    ·have:=l5 t h3
     have:=f12.next
     omega
   have fA:Frame H0 ((H5.set i ⟨21,[[i64 p.id,.bool p.mob,a,b,c,i64 p.ev,d,i64 s.id,i64 s.fr,i64 s.ep,x,y,z,u,v,w,g2,i64 pc,i64 tk,rep,i64 ft]]⟩).set lw ⟨bw.sz,bw.rows.set n [m',i64 0]⟩) (fun t => t ∈ fp i x y z u v w g pr):=by
    refine ⟨f05.next,f05.floor,fun t h1 h2 => ?_⟩
    rw [Heap.set_blk,if_neg fun e:t = lw => h2 (e ▸ w12),Heap.set_blk,if_neg fun e:t = i => h2 (e ▸ List.mem_cons_self ..)]
    exact f05.old t h1 id
   have hfA:∀ t ∈ fp i x y z u v w g2 (pr.set n [m',i64 0]),t ∈ fp i x y z u v w g pr ∨ H0.next ≤ t:=fun t ht => by
    rcases putPort_fp (q:=⟨[],0⟩) ht with h3 | h3
    ·rcases putPages_fp h3 with h4 | h4
     ·exact .inl h4
     ·have:=l5 t h4
      have:=f05.next
      exact .inr (by omega)
    ·exact .inr (l t h3)
   have hx7':ClX ((H5.set i ⟨21,[[i64 p.id,.bool p.mob,a,b,c,i64 p.ev,d,i64 s.id,i64 s.fr,i64 s.ep,x,y,z,u,v,w,g2,i64 pc,i64 tk,rep,i64 ft]]⟩).set lw ⟨bw.sz,bw.rows.set n [m',i64 0]⟩) i p { s with pages:=inP s.pages a2 m0.data.toList,ports:=s.ports.set n ⟨ms,0⟩ } pc tk rep ft a b c d x y z u v w g2 (pr.set n [m',i64 0]):=hx7
   generalize (H5.set i ⟨21,[[i64 p.id,.bool p.mob,a,b,c,i64 p.ev,d,i64 s.id,i64 s.fr,i64 s.ep,x,y,z,u,v,w,g2,i64 pc,i64 tk,rep,i64 ft]]⟩).set lw ⟨bw.sz,bw.rows.set n [m',i64 0]⟩ = H7 at *
   have fl7:H7.floor = 0:=fA.floor.trans hf
   refine (answer_run (nn + 8) hx7' fl7 _).mono fun r' H8 ⟨_,hC8⟩ => ?_
   obtain ⟨aa,bb,cc,dd,xx,yy,zz,uu,vv,ww,gg,pp,hx8,hf8,f8⟩:=hC8
   have fl8:H8.floor = 0:=f8.floor.trans fl7
   have hb8:=hx8.blk
   have ha2':∀ lx,aidxV 16 1 (.ptr lx pc.toNat 0) (.int .i64 2) = some (.ptr lx pc.toNat 2):=fun _ => aidx16 (n:=2) (by decide)
   obtain ⟨lx,bk,ro,s1,s2,s3,s4,s5,s6,hC9⟩:=hx8.store fl8 (k:=2) (by decide) 1
   have s6':3 ≤ ro.length:=s6
   have s7:¬ (i = lx):=fun e => s5 e.symm
   have s8:pc.toNat < bk.rows.length:=(List.getElem?_eq_some_iff.1 s3).1
   obtain ⟨r1,hr1⟩:∃ r1,ro.take 2 ++ [V.int .u32 0] ++ ro.drop 3 = r1:=⟨_,rfl⟩
   have q1:(bk.rows.set pc.toNat r1)[pc.toNat]? = some r1:=List.getElem?_set_self s8
   have q2:3 ≤ r1.length:=by rw [← hr1]; simp; omega
   have q3:r1.take 2 = ro.take 2:=by rw [← hr1,List.append_assoc,List.take_append_of_le_length (by rw [List.length_take]; omega),List.take_take]; rfl
   have q4:r1.drop 3 = ro.drop 3:=by
    rw [← hr1,List.drop_append_of_le_length (by simp; omega)]
    have:(List.take 2 ro ++ [V.int .u32 0]).drop 3 = []:=List.drop_of_length_le (by simp; omega)
    rw [this,List.nil_append]
   (repeat' (first | (simp only [wp,extractV,w0,reduceIte,Nat.reduceAdd,Nat.reduceLT,Nat.reduceLeDiff,Nat.reduceEqDiff,hb8,nil_ptr,s1,ha2',s2,s3,s4,s6',s7,hr1,q1,q2]) | (with_reducible ((first | apply xC | apply xG | apply xQ) <;> intro hb <;> try simp only [hb]))))
   rw [set_set',List.set_set,q3,q4]
   exact cl_comp hfA fA (cl_comp hf8 f8 hC9)
end Sy
end Go.Fv.Tr
namespace Go.Fv.Tr
open Go Go.Fv Go.Proofs
set_option maxRecDepth 20000
noncomputable def ferry_sys_table (G:GV) (call:CV) :M R :=
 (M.ret V.nils).bind fun aA =>
 (M.lift (buildV [(V.str ⟨#[]⟩),(V.int .i64 0),V.nilf] [(0,1,(V.str ⟨#[121,105,101,108,100]⟩)),(1,1,(V.int .i64 0)),(2,1,(V.fn 39 []))])).bind fun aB =>
 (M.lift (buildV [(V.str ⟨#[]⟩),(V.int .i64 0),V.nilf] [(0,1,(V.str ⟨#[115,116,111,112]⟩)),(1,1,(V.int .i64 0)),(2,1,(V.fn 40 []))])).bind fun aC =>
 (M.lift (buildV [(V.str ⟨#[]⟩),(V.int .i64 0),V.nilf] [(0,1,(V.str ⟨#[115,116,97,114,116]⟩)),(1,1,(V.int .i64 1)),(2,1,(V.fn 41 []))])).bind fun aD =>
 (M.lift (buildV [(V.str ⟨#[]⟩),(V.int .i64 0),V.nilf] [(0,1,(V.str ⟨#[115,108,101,101,112]⟩)),(1,1,(V.int .i64 1)),(2,1,(V.fn 42 []))])).bind fun aE =>
 (M.lift (buildV [(V.str ⟨#[]⟩),(V.int .i64 0),V.nilf] [(0,1,(V.str ⟨#[112,114,105,111]⟩)),(1,1,(V.int .i64 2)),(2,1,(V.fn 43 []))])).bind fun aF =>
 (M.lift (buildV [(V.str ⟨#[]⟩),(V.int .i64 0),V.nilf] [(0,1,(V.str ⟨#[116,105,109,101]⟩)),(1,1,(V.int .i64 0)),(2,1,(V.fn 44 []))])).bind fun aG =>
 (M.lift (buildV [(V.str ⟨#[]⟩),(V.int .i64 0),V.nilf] [(0,1,(V.str ⟨#[114,97,105,115,101]⟩)),(1,1,(V.int .i64 1)),(2,1,(V.fn 45 []))])).bind fun aH =>
 (M.lift (buildV [(V.str ⟨#[]⟩),(V.int .i64 0),V.nilf] [(0,1,(V.str ⟨#[115,101,116]⟩)),(1,1,(V.int .i64 1)),(2,1,(V.fn 46 []))])).bind fun aI =>
 (M.lift (buildV [(V.str ⟨#[]⟩),(V.int .i64 0),V.nilf] [(0,1,(V.str ⟨#[99,108,101,97,114]⟩)),(1,1,(V.int .i64 1)),(2,1,(V.fn 47 []))])).bind fun aJ =>
 (M.lift (buildV [(V.str ⟨#[]⟩),(V.int .i64 0),V.nilf] [(0,1,(V.str ⟨#[97,119,97,105,116]⟩)),(1,1,(V.int .i64 2)),(2,1,(V.fn 48 []))])).bind fun aK =>
 (M.lift (buildV [(V.str ⟨#[]⟩),(V.int .i64 0),V.nilf] [(0,1,(V.str ⟨#[115,105,103,110,97,108]⟩)),(1,1,(V.int .i64 1)),(2,1,(V.fn 49 []))])).bind fun aL =>
 (M.lift (buildV [(V.str ⟨#[]⟩),(V.int .i64 0),V.nilf] [(0,1,(V.str ⟨#[116,97,107,101]⟩)),(1,1,(V.int .i64 2)),(2,1,(V.fn 50 []))])).bind fun aM =>
 (M.lift (buildV [(V.str ⟨#[]⟩),(V.int .i64 0),V.nilf] [(0,1,(V.str ⟨#[114,101,97,100]⟩)),(1,1,(V.int .i64 2)),(2,1,(V.fn 51 []))])).bind fun aN =>
 (M.lift (buildV [(V.str ⟨#[]⟩),(V.int .i64 0),V.nilf] [(0,1,(V.str ⟨#[119,114,105,116,101]⟩)),(1,1,(V.int .i64 3)),(2,1,(V.fn 52 []))])).bind fun aO =>
 (M.lift (buildV [(V.str ⟨#[]⟩),(V.int .i64 0),V.nilf] [(0,1,(V.str ⟨#[112,111,114,116]⟩)),(1,1,(V.int .i64 2)),(2,1,(V.fn 53 []))])).bind fun aP =>
 (sliceV 3 15 [(V.str ⟨#[]⟩),(V.int .i64 0),V.nilf] [(0,aB),(1,aC),(2,aD),(3,aE),(4,aF),(5,aG),(6,aH),(7,aI),(8,aJ),(9,aK),(10,aL),(11,aM),(12,aN),(13,aO),(14,aP)]).bind fun aQ =>
 (M.ret aQ).bind fun aR =>
 M.ret (Ex.ret,[aR])
theorem ferry_sys_table_eq (G:GV) (n:Nat) :sem (cfg G) (n + 1) 26 [] = outV (ferry_sys_table G (sem (cfg G) n) ) :=
 (fnV_at (C:=cfg G) (n:=n) (f:=26) (fn:=Tryz.f26) (c:=Tryz.f26.body.getD .skip) (by kernel_rfl) (by kernel_rfl) (by kernel_rfl) []).trans (by kernel_rfl)
end Go.Fv.Tr
namespace Go.Fv.Tr
open Go Go.Fv Go.Proofs
variable {G:GV}
def nameL:List (List UInt8):=[[121,105,101,108,100],[115,116,111,112],[115,116,97,114,116],[115,108,101,101,112],[112,114,105,111],[116,105,109,101],[114,97,105,115,101],[115,101,116],[99,108,101,97,114],[97,119,97,105,116],[115,105,103,110,97,108],[116,97,107,101],[114,101,97,100],[119,114,105,116,101],[112,111,114,116]]
def argL:List Int:=[0,0,1,1,2,0,1,1,1,2,1,2,2,3,2]
def nmAt (k:Nat):List UInt8:=nameL.getD k []
def agAt (k:Nat):Int:=argL.getD k 0
def tabRows:List (List V):=(List.range 15).map fun k => [.str (bs (nmAt k)),.int .i64 (agAt k),.fn (39 + k) []]
theorem tab_at {k:Nat} (h:k < 15):tabRows[k]? = some [.str (bs (nmAt k)),.int .i64 (agAt k),.fn (39 + k) []]:=by
 unfold tabRows
 rw [List.getElem?_map,List.getElem?_range h]
 rfl
set_option maxRecDepth 20000 in
theorem table_run (n:Nat) {H:Heap} {Q:V → Heap → Prop}:Run (callV (cfg G) (sem (cfg G) (n + 1)) 26 []) H Q ↔ Q (.ref H.next 3 0 15 15 true) (H.add ⟨3,tabRows⟩):=by
 refine Run.eq ?_
 rw [callV_inl rfl,ferry_sys_table_eq]
 rfl
theorem idx15 {l:Nat} {m:Int} (h0:0 ≤ m) (h:m < 15):idxV 3 (.ref l 3 0 15 15 true) (.int .i64 m) = some (.ptr l m.toNat 0):=by
 simp [idxV,h0,h]
theorem len15 {l:Nat}:lenV (.ref l 3 0 15 15 true) = some (.int .i64 15):=rfl
end Go.Fv.Tr
namespace Go.Fv.Tr
open Go Go.Fv Go.Fv.Pl Go.Proofs
variable {G:GV}
namespace Sy
variable {l m:List V} {s:St} {p:Pn} {x y z a b c d x' y' z' u v w g:V} {pr:List (List V)} {k:List V} {H H' K:Heap} {i:Nat} {pc tk ft:Int} {rep:V}
theorem StOk.tab (h:StOk p s) (hw:∀ q ∈ s.t.ps,Wp q):TabOk s.t:=by
 have r3:=h.2 2 (by decide)
 have r4:=h.2 3 (by decide)
 have r5:=h.2 4 (by decide)
 have r6:=h.2 5 (by decide)
 have r7:=h.2 6 (by decide)
 have r8:=h.2 7 (by decide)
 have r9:=h.2 8 (by decide)
 have e3:s.t.ps.length = p.procs.length:=r3.1
 refine ⟨by have:=h.1.procs.1.2; omega,r8,fun j q hq => ?_,r7⟩
 obtain ⟨hj,e⟩:=List.getElem?_eq_some_iff.1 hq
 have hm:q ∈ s.t.ps:=e ▸ List.getElem_mem hj
 have n4:NumOk q:=r4 q hm
 have n5:q.wait ≠ 0 ↔ q.state = 2:=r5 q hm
 have n6:ObjOk p q.wait q.obj:=r6 q hm
 have hob:0 ≤ q.obj ∧ (q.obj = 0 ∨ q.wait ≠ 0 ∧ q.wait ≠ 1):=by
  unfold ObjOk at n6
  split at n6
  ·exact ⟨n6.1,.inr ⟨by omega,by omega⟩⟩
  ·split at n6
   ·exact ⟨n6.1,.inr ⟨by omega,by omega⟩⟩
   ·split at n6
    ·exact ⟨n6.1,.inr ⟨by omega,by omega⟩⟩
    ·exact ⟨by omega,.inl n6⟩
 have hreg:q.regs[0]? = some 0:=by
  have hl:0 < q.regs.length:=by rw [show q.regs.length = 16 from hw q hm]; decide
  have:=n4.1
  unfold reg0 at this
  rw [List.getElem?_eq_getElem hl] at this ⊢
  simpa using this
 refine ⟨⟨hreg,n4.2.1,n4.2.2.1,n4.2.2.2,n5,hob.1,hob.2⟩,fun ht => ?_,fun ht hw1 => ?_⟩
 ·obtain ⟨a,ha,e2⟩:=List.mem_map.1 ht
  refine r9.1 a ha q ?_
  rw [e2]
  unfold at?
  rw [if_pos (by omega),Int.toNat_natCast]
  exact hq
 ·exact ht (r9.2 j hj q hq hw1)
def NewRes (K:Heap) (s:St) (r:V) (K':Heap):Prop:=∃ l x y z u v w g pr,r = .tuple [.agg (l ++ [.nils,i64 0]),.nili] ∧ MS K' l s x y z u v w g pr ∧ Frame K K' (fun _ => False) ∧ ∀ n ∈ lv [x,y,z,u,v,w,g] ++ lr pr,K.next ≤ n
set_option maxRecDepth 20000 in
set_option maxHeartbeats 2000000 in
theorem do_gen (hA:BErrs G) (n:Nat) (hp:PnS l p a b c d) (hs:StS m s x y z u v w g pr) (hb:StB s) (hok:StOk p s) (hpc:0 ≤ pc ∧ pc < s.t.ps.length) (hst:(at? s.t.ps pc).map Pr.state = some 1) (htk:0 ≤ tk ∧ tk ≤ 10000) {call:Nat} (hc:call < 15) {s':St}
  (meth:∀ {H:Heap} {i:Nat} {a b c d x y z u v w g:V} {pr:List (List V)},ClX H i p s pc tk .nils 0 a b c d x y z u v w g pr → H.floor = 0 →
   Run (callV (cfg G) (sem (cfg G) (n + 10)) (39 + call) [.ptr i 0 0]) H fun r H' => r = .tuple [] ∧ Cl H i p s' pc tk .nils 0 (fp i x y z u v w g pr) H')
  {K:Heap} (hK:K.floor ≤ K.next):Run (callV (cfg G) (sem (cfg G) (n + 11)) 10 [.agg l,.agg m,i64 pc,i64 (call:Nat),i64 tk]) K (NewRes K s'):=by
 refine callV_own rfl (mapM_closedV (by simp [hp.closedV,hs.closedV,cI]) K) ?_
 have hck:=check_val hA n hp hs
 rw [bad_none hok] at hck
 have hp':=hp
 have hs':=hs
 obtain ⟨rfl,-⟩:=hp
 obtain ⟨rfl,ht,-⟩:=hs
 rw [ferry_sys_Do_eq]
 simp only [ferry_sys_Do]
 have d1:decide (pc < 0) = false:=by rw [decide_eq_false_iff_not]; omega
 have d2:decide ((s.t.ps.length:Int) ≤ pc) = false:=by rw [decide_eq_false_iff_not]; omega
 have d3:decide (tk < 0) = false:=by rw [decide_eq_false_iff_not]; omega
 have d4:decide ((10000:Int) < tk) = false:=by rw [decide_eq_false_iff_not]; omega
 have d5:decide (((call:Nat):Int) < 0) = false:=by rw [decide_eq_false_iff_not]; omega
 have d6:decide ((15:Int) ≤ ((call:Nat):Int)) = false:=by rw [decide_eq_false_iff_not]; omega
 obtain ⟨q,hq1,hq2⟩:=Option.map_eq_some_iff.1 hst
 obtain ⟨hi,hwq⟩:=ht.at hq1
 have e1:(q.state == 1) = true:=by simpa using hq2
 have hnil:badE none = V.nili:=rfl
 have hix:∀ {l:Nat},idxV 3 (.ref l 3 0 15 15 true) (.int .i64 ((call:Nat):Int)) = some (.ptr l call 0):=fun {l} => by
  have:=idx15 (l:=l) (m:=((call:Nat):Int)) (by omega) (by omega)
  simpa using this
 (repeat' (first | (simp only [wp,extractV,w0,reduceIte,Nat.reduceAdd,Nat.reduceLT,Nat.reduceLeDiff,Nat.reduceEqDiff,hck,hnil,eq_nili,ht.p.len,List.length_map,d1,d2,d3,d4,d5,d6,hi,pr_state hwq,e1,Go.Fv.Tr.table_run,len15]) | (with_reducible ((first | apply xC | apply xG | apply xQ) <;> intro hb <;> try simp only [hb]))))
 generalize hH0:((((Heap.empty.add ⟨7,[[i64 p.id,.bool p.mob,a,b,c,i64 p.ev,d]]⟩).add ⟨10,[[i64 s.id,i64 s.fr,i64 s.ep,x,y,z,u,v,w,g]]⟩).add ⟨12,[[.int .i64 0,.int .i64 0,.int .i64 0,.nils,.nils,.nils,.nils,.nils,.nils,.nils,.nils,.int .i64 0]]⟩).add ⟨3,tabRows⟩) = H0
 have n0:H0.next = 4:=by rw [← hH0]; rfl
 have b2:H0.blk 2 = some ⟨12,[[.int .i64 0,.int .i64 0,.int .i64 0,.nils,.nils,.nils,.nils,.nils,.nils,.nils,.nils,.int .i64 0]]⟩:=by rw [← hH0]; rfl
 have b3:H0.blk 3 = some ⟨3,tabRows⟩:=by rw [← hH0]; rfl
 have fl0:H0.floor = 0:=by rw [← hH0]; rfl
 clear hH0
 refine q_newst (s':=s) (fun q hq => visB_low (by omega) _) (by omega) (fun K k1 k2 k3 => copy_new (n + 7) hs' hb k2) fun r H1 hN => ?_
 obtain ⟨l2,x2,y2,z2,u2,v2,w2,g2,pr2,rfl,ms2,f1,hge⟩:=hN
 have e2:=ms2.eq
 subst e2
 have b2:=(f1.old 2 (by omega) id).trans b2
 have b3:=(f1.old 3 (by omega) id).trans b3
 have fl1:=f1.floor.trans fl0
 have n1:=f1.next
 have m3:¬ (3 = H1.next):=by omega
 (repeat' (first | (simp only [wp,extractV,w0,reduceIte,Nat.reduceAdd,Nat.reduceLT,Nat.reduceLeDiff,Nat.reduceEqDiff,buildV,fill,putRow,hix,b3,m3,tab_at hc,callFn0]) | (with_reducible ((first | apply xC | apply xG | apply xQ) <;> intro hb <;> try simp only [hb]))))
 have fa:Frame H1 (H1.add ⟨21,[[i64 p.id,.bool p.mob,a,b,c,i64 p.ev,d,i64 s.id,i64 s.fr,i64 s.ep,x2,y2,z2,u2,v2,w2,g2,i64 pc,i64 tk,.nils,.int .i64 0]]⟩) (fun _ => False):=Frame.add _ _
 have hx:ClX (H1.add ⟨21,[[i64 p.id,.bool p.mob,a,b,c,i64 p.ev,d,i64 s.id,i64 s.fr,i64 s.ep,x2,y2,z2,u2,v2,w2,g2,i64 pc,i64 tk,.nils,.int .i64 0]]⟩) H1.next p s pc tk .nils 0 a b c d x2 y2 z2 u2 v2 w2 g2 pr2 :=
  ⟨Heap.add_new _,Nat.lt_succ_self _,⟨_,hp'⟩,⟨_,ms2.frame fa fun _ _ => id⟩,fun g => by have:=ms2.lt g; omega,hpc,hb⟩
 have fl2:(H1.add ⟨21,[[i64 p.id,.bool p.mob,a,b,c,i64 p.ev,d,i64 s.id,i64 s.fr,i64 s.ep,x2,y2,z2,u2,v2,w2,g2,i64 pc,i64 tk,.nils,.int .i64 0]]⟩).floor = 0:=fl1
 have b2:=(fa.old 2 (by omega) id).trans b2
 have nx2:(H1.add ⟨21,[[i64 p.id,.bool p.mob,a,b,c,i64 p.ev,d,i64 s.id,i64 s.fr,i64 s.ep,x2,y2,z2,u2,v2,w2,g2,i64 pc,i64 tk,.nils,.int .i64 0]]⟩).next = H1.next + 1:=rfl
 generalize (H1.add ⟨21,[[i64 p.id,.bool p.mob,a,b,c,i64 p.ev,d,i64 s.id,i64 s.fr,i64 s.ep,x2,y2,z2,u2,v2,w2,g2,i64 pc,i64 tk,.nils,.int .i64 0]]⟩) = H2 at *
 refine (meth hx fl2).mono fun r H3 ⟨_,hC⟩ => ?_
 obtain ⟨a3,b3',c3,d3,x3,y3,z3,u3,v3,w3,g3,pr3,hx3,hf3,f3⟩:=hC
 have b2:=(f3.old 2 (by omega) fun hm => by
  rcases List.mem_cons.1 hm with e | hm
  ·omega
  ·have:=hge 2 hm
   omega).trans b2
 have fl3:H3.floor ≤ 2:=by have:=f3.floor; omega
 have hb3:=hx3.blk
 have n3:=f3.next
 have m4:¬ (H1.next = 2):=by omega
 (repeat' (first | (simp only [wp,extractV,w0,reduceIte,Nat.reduceAdd,Nat.reduceLT,Nat.reduceLeDiff,Nat.reduceEqDiff,nil_ptr,hb3,beq_self_eq_true,buildV,fill,putRow,b2,fl3,m4,tupV]) | (with_reducible ((first | apply xC | apply xG | apply xQ) <;> intro hb <;> try simp only [hb]))))
 obtain ⟨l3,ms3⟩:=hx3.ms
 have hno2:∀ q ∈ lv [x3,y3,z3,u3,v3,w3,g3] ++ lr pr3,q ≠ 2:=fun q hq e => by
  rcases hf3 q (List.mem_cons_of_mem _ hq) with h | h
  ·rcases List.mem_cons.1 h with h | h
   ·omega
   ·have:=hge q h
    omega
  ·omega
 have el3:=ms3.eq
 subst el3
 have ms4:=ms3.frame (Frame.set (H:=H3) ⟨12,[[i64 s'.id,i64 s'.fr,i64 s'.ep,x3,y3,z3,u3,v3,w3,g3,.nils,.int .i64 0]]⟩ 2 (p:=fun q => q = 2) rfl) hno2
 obtain ⟨r,ls,h1,h2⟩:=ms4.gives
 have h3:=gives_app h1 (show gives _ [.nils,i64 0] ls = some ([.nils,i64 0],ls) from rfl)
 refine ⟨.tuple [.agg (r ++ [.nils,i64 0]),.nili],?_,?_⟩
 ·have h3':gives (H3.set 2 ⟨12,[[i64 s'.id,i64 s'.fr,i64 s'.ep,x3,y3,z3,u3,v3,w3,g3,.nils,.int .i64 0]]⟩) [i64 s'.id,i64 s'.fr,i64 s'.ep,x3,y3,z3,u3,v3,w3,g3,.nils,.int .i64 0] [] = some (r ++ [.nils,i64 0],ls):=h3
  simp only [giveV,gives2,give2,h3',Option.bind_some]
  rfl
 ·simp only [takeV,takes2,take2,Run.bind,Run.ret]
  refine takes_app ((h2 K hK).mono fun l' K' ⟨x',y',z',u',v',w',g',pr',h4,h5,h6⟩ => ?_)
  exact Run.of rfl (Run.of rfl ⟨l',x',y',z',u',v',w',g',pr',rfl,h4,h5,h6⟩)
end Sy
end Go.Fv.Tr
namespace Go.Fv
open Go
noncomputable def runKc (C:Cfg) (call:CV) (fuel:Nat) (T:List Nat) (c:Code):Env → (Ex → Env → M R) → M R :=
 Code.rec (motive:=fun _ => Env → (Ex → Env → M R) → M R)
  (fun env K => K .normal env)
  (fun _ ops draw env K => match draw with
   | false => runOps C call ops ops.toList env (K .normal)
   | true => if orderOk ops then fun h => runDrawn C call ops h.next ops.toList 0 [] env (K .normal) h else M.fail)
  (fun _ _ ra rb env K => ra env (onNormal (fun env' => rb env' K) K))
  (fun c _ _ ra rb env K => condV (ev C env c) (ra env K) (rb env K))
  (fun id _ rc env K => rc env (onBlock id K))
  (fun c rc env K => (iter (fun s => rc (restore env (carried T c) (allDsts c) s) fun e env' => M.ret (e,(carried T c).map env')) fuel ((carried T c).map env)).bind
   (onLoop K env (carried T c) (allDsts c)))
  (fun _ _ _ _ _ _ _ _ => M.fail)
  (fun id env K => K (.exit id) env)
  (fun _ _ _ _ => M.fail)
  (fun _ env K => K .normal env)
  (fun _ _ _ => M.fail)
  (fun env K => K .ret env)
  (fun _ _ _ => M.fail)
  c
noncomputable def bodyVc (C:Cfg) (call:CV) (fuel:Nat) (fn:Func) (c:Code) (args:List V):M V :=
 if okFn fn c then (runKc C call fuel (reads c ++ fn.results.toList.map fun | .tmp t => t | .cell a _ => a) c (fun t => args.getD t .undef) (finish C.P fn)).bind fun r => M.ret (r.2.getD 0 .undef) else M.fail
noncomputable def fnVc (C : Cfg) (call : CV) (fuel : Nat) (f : FuncId) (args : List V) : M V :=
  match C.P.funcs[f]? with
  | some fn => match fn.body with
    | some c => if fn.name = "runtime.NumGoroutine" then M.fail else bodyVc C call fuel fn c args
    | none => M.fail
  | none => M.fail
noncomputable def semC (C:Cfg) (fuel:Nat):Nat → FuncId → List V → M V
 | 0 => fun _ _ => M.fail
 | n + 1 => fun f args => fnVc C (semC C fuel n) fuel f args
def Le {α:Type} (m m':M α):Prop:=∀ H r,m H = some r → m' H = some r
section
variable {α β:Type}
theorem Le.refl (m:M α):Le m m:=fun _ _ h => h
theorem Le.fail (m:M α):Le M.fail m:=fun _ _ h => by cases h
theorem Le.bind {m m' : M α} {f f' : α → M β} (hm : Le m m') (hf : ∀ a, Le (f a) (f' a)) : Le (M.bind m f) (M.bind m' f') := fun H r h => by
  simp only [M.bind] at h ⊢
  cases e:m H with
  | none => rw [e] at h; cases h
  | some x =>
    rw [e] at h
    rw [hm H x e]
    exact hf x.1 x.2 r h
theorem Le.ite {c:Prop} [Decidable c] {m m' n n':M α} (h1:Le m m') (h2:Le n n'):Le (if c then m else n) (if c then m' else n'):=by
 by_cases h:c
 ·rw [if_pos h,if_pos h]; exact h1
 ·rw [if_neg h,if_neg h]; exact h2
theorem Le.cond {v:V} {m m' n n':M α} (h1:Le m m') (h2:Le n n'):Le (condV v m n) (condV v m' n'):=by
 cases v with
 | bool t => cases t; exact h2; exact h1
 | _ => exact Le.refl _
end
section
variable {C:Cfg} {call call':FuncId → List V → M V}
theorem callP_le {own : Bool} {f f' : List V → M V} (hf : ∀ az, Le (f az) (f' az)) (args : List V) : Le (callP own f args) (callP own f' args) := fun H r h => by
  simp only [callP] at h ⊢
  cases hm:args.mapM (thawV true H) with
  | none => rw [hm] at h; cases h
  | some az =>
    rw [hm] at h
    simp only [Option.bind_some] at h ⊢
    cases e:f az Heap.empty with
    | none => rw [e] at h; cases h
    | some x =>
      rw [e] at h
      rw [hf az Heap.empty x e]
      exact h
theorem callV_le (hc:∀ f az,Le (call f az) (call' f az)) (f:FuncId) (args:List V):Le (callV C call f args) (callV C call' f args):=by
 unfold callV
 cases C.kind f with
 | inl => exact hc f args
 | pure => exact callP_le (hc f) args
 | own => exact callP_le (hc f) args
 | ext => exact Le.refl _
 | exts => exact Le.refl _
 | extm => exact Le.refl _
theorem callFn_le (hc:∀ f az,Le (call f az) (call' f az)) (x:V) (args:List V):Le (callFn C call x args) (callFn C call' x args):=by
 cases x <;> first | exact callV_le hc _ _ | exact Le.refl _
theorem stepV_le (hc : ∀ f az, Le (call f az) (call' f az)) (e : Operand → V) (o : Op) : Le (stepV C call e o) (stepV C call' e o) := by
  cases o with
  | call c =>
    obtain ⟨callee,args,ats⟩:=c
    cases callee with
    | value f => exact callFn_le hc _ _
    | builtin b => exact Le.refl _
    | invoke r n => exact Le.refl _
  | _ => exact Le.refl _
theorem guardV_le {v:V} {w:Bool} {m m':M V} (h:Le m m'):Le (guardV v w m) (guardV v w m'):=by
 cases v with
 | bool b => exact Le.ite h (Le.refl _)
 | _ => exact Le.refl _
theorem guarded_le (hc : ∀ f az, Le (call f az) (call' f az)) (ops : Array Oper) (env : Env) (o : Oper) : Le (guarded C call ops env o) (guarded C call' ops env o) := by
  unfold guarded
  cases o.guard with
  | none => exact stepV_le hc _ _
  | some g =>
    obtain ⟨j,w⟩:=g
    simp only
    cases (ops[j]?).bind (·.dst) with
    | none => exact Le.refl _
    | some d => exact guardV_le (stepV_le hc _ _)
theorem runOps_le (hc:∀ f az,Le (call f az) (call' f az)) (ops:Array Oper):∀ (l:List Oper) (env:Env) (K K':Env → M R),(∀ env,Le (K env) (K' env)) → Le (runOps C call ops l env K) (runOps C call' ops l env K')
 | [],env,K,K',hK => hK env
 | o :: l,env,K,K',hK => Le.bind (guarded_le hc ops env o) fun v => runOps_le hc ops l _ K K' hK
theorem qrun_le {v:Nat → Bool} {m m':M V} (h:Le m m'):Le (qrun v m) (qrun v m'):=fun H r e => by
 simp only [qrun] at e ⊢
 cases hm:m ⟨fun l => if v l then H.blk l else none,H.next,H.next⟩ with
 | none => rw [hm] at e; cases e
 | some x => rw [hm] at e; rw [h _ x hm]; exact e
theorem trun_le {v:Nat → Bool} {m m':M V} (h:Le m m'):Le (trun v m) (trun v m'):=fun H r e => by
 simp only [trun] at e ⊢
 cases hm:m ⟨fun l => if v l then H.blk l else none,H.next,H.floor⟩ with
 | none => rw [hm] at e; cases e
 | some x => rw [hm] at e; rw [h _ x hm]; exact e
theorem stepD_le (hc:∀ f az,Le (call f az) (call' f az)) (ops:Array Oper) (n0 i:Nat) (bs:List (Nat × Nat × Nat × V)) (env:Env) (o:Oper):Le (stepD C call ops n0 i bs env o) (stepD C call' ops n0 i bs env o):=by
 unfold stepD
 exact Le.ite (trun_le (guarded_le hc ops env o)) (Le.ite (qrun_le (guarded_le hc ops env o)) (Le.ite (Le.refl _) (guarded_le hc ops env o)))
theorem runDrawn_le (hc : ∀ f az, Le (call f az) (call' f az)) (ops : Array Oper) (n0 : Nat) : ∀ (l : List Oper) (i : Nat) (bs : List (Nat × Nat × Nat × V)) (env : Env) (K K' : Env → M R), (∀ env, Le (K env) (K' env)) →
    Le (runDrawn C call ops n0 l i bs env K) (runDrawn C call' ops n0 l i bs env K')
  | [],i,bs,env,K,K',hK => hK env
  | o :: l, i, bs, env, K, K', hK => fun H r h => by
    have e : ∀ (cl : FuncId → List V → M V) (Kx : Env → M R), runDrawn C cl ops n0 (o :: l) i bs env Kx H = if (conf ops i).all fun k => apartV (ptrAt bs k) (ptrOf C env o.op) then
        (stepD C cl ops n0 i bs env o H).bind fun x => runDrawn C cl ops n0 l (i + 1) ((i,H.next,x.2.next,ptrOf C env o.op) :: bs) (put env o.dst x.1) Kx x.2 else none:=fun _ _ => rfl
    rw [e] at h ⊢
    split at h
    · rename_i hcf
      rw [if_pos hcf]
      cases hs:stepD C call ops n0 i bs env o H with
      | none => rw [hs] at h; cases h
      | some x =>
        rw [hs] at h
        rw [stepD_le hc ops n0 i bs env o H x hs]
        exact runDrawn_le hc ops n0 l _ _ _ K K' hK x.2 r h
    · cases h
theorem iter_le {F F' : List V → M R} (hF : ∀ s, Le (F s) (F' s)) : ∀ (n : Nat) (s : List V), Le (iter F n s) (iter F' n s)
  | 0,s => Le.refl _
  | n + 1, s => by
    have e:∀ G:List V → M R,iter G (n + 1) s = M.bind (G s) fun r => match r.1 with | .normal => iter G n r.2 | _ => M.ret r:=fun _ => rfl
    rw [e F,e F']
    refine Le.bind (hF s) fun r => ?_
    obtain ⟨ex,s'⟩:=r
    cases ex with
    | normal => exact iter_le hF n s'
    | exit j => exact Le.refl _
    | ret => exact Le.refl _
theorem iter_loop {F:List V → M R} (n:Nat) (s:List V):Le (iter F n s) (loopV F s):=fun H r h => loopV_of h
theorem runK_le (hc : ∀ f az, Le (call f az) (call' f az)) (fuel : Nat) (T : List Nat) : ∀ (c : Code) (env : Env) (K K' : Ex → Env → M R), (∀ e env, Le (K e env) (K' e env)) → Le (runKc C call fuel T c env K) (runK C call' T c env K') := by
  intro c
  induction c with
  | region id ops draw =>
    intro env K K' hK
    cases draw with
    | false => exact runOps_le hc ops _ env _ _ (hK .normal)
    | true =>
      show Le (if orderOk ops then fun h => runDrawn C call ops h.next ops.toList 0 [] env (K .normal) h else M.fail) (if orderOk ops then fun h => runDrawn C call' ops h.next ops.toList 0 [] env (K' .normal) h else M.fail)
      refine Le.ite (fun H r h => ?_) (Le.refl _)
      exact runDrawn_le hc ops H.next _ 0 [] env _ _ (hK .normal) H r h
  | seq a b iha ihb =>
    intro env K K' hK
    refine iha env _ _ fun e env' => ?_
    cases e with
    | normal => exact ihb env' K K' hK
    | exit j => exact hK _ _
    | ret => exact hK _ _
  | cond o a b iha ihb => intro env K K' hK; exact Le.cond (iha env K K' hK) (ihb env K K' hK)
  | block id c ih =>
    intro env K K' hK
    refine ih env _ _ fun e env' => ?_
    cases e with
    | normal => exact hK _ _
    | exit j => exact Le.ite (hK _ _) (hK _ _)
    | ret => exact hK _ _
  | loop c ih =>
    intro env K K' hK
    refine Le.bind (fun H r h => iter_loop fuel _ H r (iter_le (fun s => ih _ _ _ fun e env' => Le.refl _) fuel _ H r h)) fun r => ?_
    cases r with
    | mk e s => cases e <;> first | exact Le.refl _ | exact hK _ _
  | _ =>
    intro env K K' hK
    first | exact hK _ _ | exact Le.fail _
theorem body_le (hc:∀ f az,Le (call f az) (call' f az)) (fuel:Nat) (fn:Func) (c:Code) (args:List V):Le (bodyVc C call fuel fn c args) (bodyV C call' fn c args):=by
 unfold bodyVc bodyV
 exact Le.ite (Le.bind (runK_le hc fuel _ c _ _ _ fun _ _ => Le.refl _) fun _ => Le.refl _) (Le.refl _)
theorem fn_le (hc : ∀ f az, Le (call f az) (call' f az)) (fuel : Nat) (f : FuncId) (args : List V) : Le (fnVc C call fuel f args) (fnV C call' f args) := by
  unfold fnVc fnV
  cases C.P.funcs[f]? with
  | none => exact Le.refl _
  | some fn =>
    simp only
    cases fn.body with
    | none => exact Le.refl _
    | some c => exact Le.ite (Le.refl _) (body_le hc fuel fn c args)
theorem sem_le (fuel:Nat):∀ (n:Nat) (f:FuncId) (args:List V),Le (semC C fuel n f args) (sem C n f args)
 | 0,f,args => Le.refl _
 | n + 1,f,args => fn_le (sem_le fuel n) fuel f args
end
noncomputable def semO (C : Cfg) (ov : FuncId → (FuncId → List V → M V) → List V → Option (M V)) (fuel : Nat) : Nat → FuncId → List V → M V
  | 0 => fun _ _ => M.fail
  | n + 1 => fun f args => match ov f (semO C ov fuel n) args with
    | some m => m
    | none => fnVc C (semO C ov fuel n) fuel f args
def OvOk (C:Cfg) (fuel:Nat) (ov:FuncId → (FuncId → List V → M V) → List V → Option (M V)):Prop:=∀ f call args m,ov f call args = some m → m = fnVc C call fuel f args
theorem semO_le {C : Cfg} {fuel : Nat} {ov : FuncId → (FuncId → List V → M V) → List V → Option (M V)} (h : OvOk C fuel ov) : ∀ (n : Nat) (f : FuncId) (args : List V), Le (semO C ov fuel n f args) (sem C n f args)
  | 0,f,args => Le.refl _
  | n + 1, f, args => by
    have e : semO C ov fuel (n + 1) f args = fnVc C (semO C ov fuel n) fuel f args := by
      simp only [semO]
      split
      · rename_i m hm; exact h f _ args m hm
      · rfl
    rw [e]
    exact fn_le (semO_le h n) fuel f args
noncomputable def playsTrueO (C:Cfg) (ov:FuncId → (FuncId → List V → M V) → List V → Option (M V)) (fuel n:Nat) (f:FuncId) (args:List V):Bool:=match semO C ov fuel n f args Heap.empty with
 | some (.bool true,_) => true
 | _ => false
theorem plays_trueO {C : Cfg} {ov : FuncId → (FuncId → List V → M V) → List V → Option (M V)} {fuel n : Nat} (hov : OvOk C fuel ov) {f : FuncId} {args : List V} (h : playsTrueO C ov fuel n f args = true) : ∃ H', sem C n f args Heap.empty = some (.bool true, H') := by
  unfold playsTrueO at h
  cases e:semO C ov fuel n f args Heap.empty with
  | none => rw [e] at h; cases h
  | some x =>
    obtain ⟨v,H'⟩:=x
    rw [e] at h
    cases v with
    | bool b =>
      cases b with
      | true => exact ⟨H',semO_le hov n f args _ _ e⟩
      | false => cases h
    | _ => cases h
end Go.Fv
