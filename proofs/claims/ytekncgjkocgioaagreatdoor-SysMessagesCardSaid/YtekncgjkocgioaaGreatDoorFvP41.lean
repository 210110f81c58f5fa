/-
  The chapter's plan and state, in memory. By an AI agent; no person has read it.
-/
import Derived.Test.YtekncgjkocgioaaGreatDoorFvP40
set_option linter.unusedVariables false
set_option linter.unusedSimpArgs false
set_option linter.unusedSectionVars false
/-! The chapter's plan and state, in memory. -/
namespace Go.Fv.Tr
open Go Go.Fv Go.Fv.Pl Go.Proofs
variable {G:GV}
namespace Sy
variable {l m:List V} {s:St} {p:Pn} {x y z a b c d x' y' z' u v w g:V} {pr:List (List V)} {k:List V} {H H' K:Heap} {i:Nat} {pc tk ft:Int} {rep:V}
def P0:Pr:=⟨[0,0,0,0,0,0,0,0,0,0,0,0,0,0,0,0],0,1,5,0,0⟩
def pS:Pn:=⟨0,false,[⟨7,⟨#[]⟩⟩],[⟨0,5,true⟩,⟨0,5,true⟩],[⟨3,4,2,0⟩,⟨4,4,2,0⟩],1,[0]⟩
def sS:St:=⟨0,0,0,⟨[P0,P0],[0,1],[]⟩,[false],[0],[⟨[],0⟩,⟨[],0⟩],[⟨7,false,List.replicate 64 0⟩]⟩
def litP:List V:=[i64 0,.bool false,.own 2 (pS.pages.map gpR),.own 3 (pS.procs.map cpR),.own 4 (pS.ports.map tpR),i64 1,.own 1 (pS.sems.map intRow)]
def litS:List V:=[i64 0,i64 0,i64 0,.own 21 (sS.t.ps.map prRow),.own 1 (sS.t.q.map intRow),.nils,.own 1 (sS.up.map boR),.own 1 (sS.sems.map intRow),.own 2 [[.nils,i64 0],[.nils,i64 0]],.own 66 (sS.pages.map paR)]
set_option maxRecDepth 100000 in
theorem small_lit:(semC (cfg G) 50 13 11 [] Heap.empty).bind (fun r => giveV r.2 r.1) = some (.tuple [.agg litP,.agg litS]):=by kernel_rfl
structure MP (H:Heap) (l:List V) (p:Pn) (a b c d:V):Prop where
 eq:l = [i64 p.id,.bool p.mob,a,b,c,i64 p.ev,d]
 pages:Own H a 2 (p.pages.map gpR)
 procs:Own H b 3 (p.procs.map cpR)
 ports:Own H c 4 (p.ports.map tpR)
 sems:Own H d 1 (p.sems.map intRow)
theorem MP.frame {P:Nat → Prop} (h:MP H l p a b c d) (f:Frame H H' P) (hp:∀ n ∈ lv [a,b,c,d],¬ P n):MP H' l p a b c d:=by
 have hl:∀ q ∈ [a,b,c,d],∀ n,loc q = some n → ¬ P n:=fun q hq n hn => hp n (mem_lv.2 ⟨q,hq,hn⟩)
 exact ⟨h.eq,h.pages.frame f (hl _ (by simp)),h.procs.frame f (hl _ (by simp)),h.ports.frame f (hl _ (by simp)),h.sems.frame f (hl _ (by simp))⟩
theorem flat_gps (l:List Gp):flatRows (l.map gpR) = true:=by simp [flatRows,gpR,V.flat]
theorem flat_cps (l:List Cp):flatRows (l.map cpR) = true:=by simp [flatRows,cpR,V.flat]
theorem flat_tps (l:List Tp):flatRows (l.map tpR) = true:=by simp [flatRows,tpR,V.flat]
theorem MP.thaw (h:MP H l p a b c d) (hb:p.pages.length ≤ big ∧ p.procs.length ≤ big ∧ p.ports.length ≤ big ∧ p.sems.length ≤ big):∃ l' a' b' c' d',thawV true H (.agg l) = some (.agg l') ∧ PnS l' p a' b' c' d':=by
 obtain ⟨a',e1,s1⟩:=h.pages.thaw (flat_gps _) true
 obtain ⟨b',e2,s2⟩:=h.procs.thaw (flat_cps _) true
 obtain ⟨c',e3,s3⟩:=h.ports.thaw (flat_tps _) true
 obtain ⟨d',e4,s4⟩:=h.sems.thaw (flat_ints _) true
 refine ⟨_,a',b',c',d',?_,rfl,s1,s2,s3,s4,hb⟩
 rw [h.eq]
 have i:∀ k:Int,Fv.thaw true H (i64 k) = some (i64 k):=fun k => rfl
 have ib:∀ k:Bool,Fv.thaw true H (.bool k) = some (.bool k):=fun k => rfl
 simp only [thawV,List.mapM_cons,List.mapM_nil,i,ib,e1,e2,e3,e4]
 rfl
theorem small_new (hK : K.floor ≤ K.next) : Run (callV (cfg G) (sem (cfg G) 13) 11 []) K fun r K' => ∃ M lp a b c d ls x y z u v w g pr, r = .tuple [.agg lp, .agg ls] ∧ MP K' lp pS a b c d ∧ MS K' ls sS x y z u v w g pr ∧ Frame K K' (fun _ => False) ∧
    (∀ n ∈ lv [a,b,c,d],K.next ≤ n ∧ n < M) ∧ ∀ n ∈ lv [x,y,z,u,v,w,g] ++ lr pr,M ≤ n:=by
  have h:=small_lit (G:=G)
  cases e:semC (cfg G) 50 13 11 [] Heap.empty with
  | none => rw [e] at h; cases h
  | some r =>
    rw [e] at h
    simp only [Option.bind_some] at h
    refine callV_own rfl (bs:=[]) rfl ⟨r.1,r.2,?_,_,h,?_⟩
    · exact sem_le 50 13 _ _ _ _ e
    · have tb:∀ q:Bool,take1 (.bool q) = M.ret (.bool q):=fun _ => rfl
      have ti:∀ n:Int,take1 (i64 n) = M.ret (i64 n):=fun _ => rfl
      have go:∀ (z:Nat) (rows:List (List V)),Gv (.own z rows) z rows:=fun _ _ => .inr rfl
      simp only [takeV,takes2,take2,Run.bind,Run.ret]
      show Run (takes litP) K _
      unfold litP
      simp only [takes,ti,tb,Run.bind,Run.ret]
      refine ((go _ _).take hK).mono fun a K1 ⟨oa,fa,la⟩ => ?_
      have k1:K1.floor ≤ K1.next:=by rw [fa.floor]; exact Nat.le_trans hK fa.next
      refine ((go _ _).take k1).mono fun b K2 ⟨ob,fb,lb⟩ => ?_
      have k2:K2.floor ≤ K2.next:=by rw [fb.floor]; exact Nat.le_trans k1 fb.next
      refine ((go _ _).take k2).mono fun c K3 ⟨oc,fc,lc⟩ => ?_
      have k3:K3.floor ≤ K3.next:=by rw [fc.floor]; exact Nat.le_trans k2 fc.next
      refine ((go _ _).take k3).mono fun d K4 ⟨od,fd,ld⟩ => ?_
      have k4:K4.floor ≤ K4.next:=by rw [fd.floor]; exact Nat.le_trans k3 fd.next
      have hw:WG (.own 2 [[.nils,i64 0],[.nils,i64 0]]) sS.ports:=.inr ⟨_,.inl rfl,.cons ⟨.nils,rfl,.inl ⟨.inl rfl,rfl⟩,by decide⟩ (.cons ⟨.nils,rfl,.inl ⟨.inl rfl,rfl⟩,by decide⟩ .nil),fun _ => rfl⟩
      refine (takes_ms (s:=sS) (go _ _) (go _ _) (.inl ⟨.inl rfl,rfl⟩) (go _ _) (go _ _) hw (go _ _) k4).mono fun ls K5 ⟨x,y,z,u,v,w,g,pr,ms,f5,hge⟩ => ?_
      have n1:=fa.next
      have n2:=fb.next
      have n3:=fc.next
      have n4:=fd.next
      refine ⟨K4.next,_,a,b,c,d,ls,x,y,z,u,v,w,g,pr,rfl,⟨rfl,(((oa.frame fb fun _ _ => id).frame fc fun _ _ => id).frame fd fun _ _ => id).frame f5 fun _ _ => id,((ob.frame fc fun _ _ => id).frame fd fun _ _ => id).frame f5 fun _ _ => id,(oc.frame fd fun _ _ => id).frame f5 fun _ _ => id,od.frame f5 fun _ _ => id⟩,ms,(((fa.tr fb).tr fc).tr fd).tr f5,fun n hn => ?_,hge⟩
      obtain ⟨q,hq,hl⟩:=mem_lv.1 hn
      simp only [List.mem_cons,List.not_mem_nil,or_false] at hq
      rcases hq with rfl | rfl | rfl | rfl
      · have:=la n hl; have:=oa.loc_lt hl; omega
      · have:=lb n hl; have:=ob.loc_lt hl; omega
      · have:=lc n hl; have:=oc.loc_lt hl; omega
      · have:=ld n hl; have:=od.loc_lt hl; omega
theorem ms_store (ms:MS H l s x y z u v w g pr) (hb:StB s) {pc:Int} (hpc:0 ≤ pc ∧ pc < s.t.ps.length) {k:Nat} (hk:k < 16) (n:Int):∃ lx bk row,loc x = some lx ∧ idxV 21 x (.int .i64 pc) = some (.ptr lx pc.toNat 0) ∧ H.blk lx = some bk ∧ bk.rows[pc.toNat]? = some row ∧ H.floor ≤ lx ∧ lx < H.next ∧ k + 1 ≤ row.length ∧
  MS (H.set lx ⟨bk.sz,bk.rows.set pc.toNat (row.take k ++ [.int .u32 n] ++ row.drop (k + 1))⟩) l (setR s pc k n) x y z u v w g pr:=by
 have hlt:pc.toNat < (s.t.ps.map prRow).length:=by rw [List.length_map]; omega
 obtain ⟨lx,bk,h1,h2,h3,h4,h5⟩:=ms.ps.idx (k:=.i64) hlt
 rw [Int.toNat_of_nonneg hpc.1] at h2
 rw [List.getElem_map] at h4
 have hlt':pc.toNat < s.t.ps.length:=by omega
 have hw:=hb.wp _ (List.getElem_mem hlt')
 refine ⟨lx,bk,_,h1,h2,h3,h4,h5,ms.ps.loc_lt h1,by rw [pr_len hw]; omega,?_⟩
 have er:(setR s pc k n).t.ps.map prRow = (s.t.ps.map prRow).set pc.toNat ((prRow s.t.ps[pc.toNat]).take k ++ [.int .u32 n] ++ (prRow s.t.ps[pc.toNat]).drop (k + 1)):=by
  rw [prRow_set hw hk]
  have:=setP_rows (f:=fun q => { q with regs:=q.regs.set k n }) hlt'
  rw [Int.toNat_of_nonneg hpc.1] at this
  exact this
 obtain ⟨d1,d2⟩:=nd_ne (A:=[]) (B:=[y,z,u,v,w,g]) ms.nd h1
 have f:Frame H (H.set lx ⟨bk.sz,bk.rows.set pc.toNat ((prRow s.t.ps[pc.toNat]).take k ++ [.int .u32 n] ++ (prRow s.t.ps[pc.toNat]).drop (k + 1))⟩) (fun m => m = lx):=Frame.set _ _ rfl
 refine ⟨ms.eq,?_,ms.q.frame f (d1 _ (by simp)),ms.ts.frame f (d1 _ (by simp)),ms.up.frame f (d1 _ (by simp)),ms.sems.frame f (d1 _ (by simp)),ms.ports.frame f (d1 _ (by simp)),ms.pages.frame f (d1 _ (by simp)),ms.row.frame f d2,ms.nd⟩
 rw [er]
 exact ms.ps.put h1 h3 _
theorem do_mem (hA:BErrs G) (n:Nat) {lp ls:List V} (mp:MP K lp p a b c d) (hbp:p.pages.length ≤ big ∧ p.procs.length ≤ big ∧ p.ports.length ≤ big ∧ p.sems.length ≤ big) (ms:MS K ls s x y z u v w g pr)
  (hb:StB s) (hok:StOk p s) (hpc:0 ≤ pc ∧ pc < s.t.ps.length) (hst:(at? s.t.ps pc).map Pr.state = some 1) (htk:0 ≤ tk ∧ tk ≤ 10000) {call:Nat} (hc:call < 15) {s':St}
  (meth:∀ {H:Heap} {i:Nat} {a b c d x y z u v w g:V} {pr:List (List V)},ClX H i p s pc tk .nils 0 a b c d x y z u v w g pr → H.floor = 0 →
   Run (callV (cfg G) (sem (cfg G) (n + 10)) (39 + call) [.ptr i 0 0]) H fun r H' => r = .tuple [] ∧ Cl H i p s' pc tk .nils 0 (fp i x y z u v w g pr) H')
  (hK:K.floor ≤ K.next):Run (callV (cfg G) (sem (cfg G) (n + 11)) 10 [.agg lp,.agg ls,i64 pc,i64 (call:Nat),i64 tk]) K (NewRes K s'):=by
 obtain ⟨lp',a',b',c',d',e1,hp⟩:=mp.thaw hbp
 obtain ⟨ls',x',y',z',u',v',w',g',pr',e2,hs⟩:=ms.thaw hb
 refine Run.callOwn rfl (bs:=[.agg lp',.agg ls',i64 pc,i64 (call:Nat),i64 tk]) ?_ (by simp [hp.closedV,hs.closedV,cI]) (do_gen hA n hp hs hb hok hpc hst htk hc meth hK)
 have i:∀ k:Int,thawV true K (i64 k) = some (i64 k):=fun k => rfl
 simp only [List.mapM_cons,List.mapM_nil,e1,e2,i]
 rfl
end Sy
end Go.Fv.Tr
namespace Go.Fv.Tr
open Go Go.Fv Go.Fv.Pl Go.Proofs
variable {G:GV}
namespace Sy
def Z16:List Int:=[0,0,0,0,0,0,0,0,0,0,0,0,0,0,0,0]
def sX (r0 r1:List Int) (st0 w0:Int) (q:List Int) (ts:List Tm) (up:Bool):St:=⟨0,0,0,⟨[⟨r0,0,st0,5,w0,0⟩,⟨r1,0,1,5,0,0⟩],q,ts⟩,[up],[0],[⟨[],0⟩,⟨[],0⟩],[⟨7,false,List.replicate 64 0⟩]⟩
structure Rg (r:List Int):Prop where
 len:r.length = 16
 z:r[0]? = some 0
 ok:∀ n ∈ r,RegOk n
theorem Rg.zero:Rg Z16:=⟨rfl,rfl,fun n hn => by
 have:n = 0:=by simpa [Z16] using hn
 subst this
 unfold RegOk
 omega⟩
theorem Rg.set {r:List Int} (h:Rg r) {k:Nat} (hk:k ≠ 0) {n:Int} (hn:RegOk n):Rg (r.set k n):=⟨by simp [h.len],by rw [List.getElem?_set_ne hk]; exact h.z,fun m hm => by
 rcases List.mem_or_eq_of_mem_set hm with h' | rfl
 ·exact h.ok m h'
 ·exact hn⟩
theorem Rg.num {r:List Int} (h:Rg r) {st w:Int} (hs:0 ≤ st ∧ st ≤ 3) (hw:0 ≤ w ∧ w ≤ 4):NumOk ⟨r,0,st,5,w,0⟩:=⟨by unfold reg0; rw [h.z]; rfl,hs,⟨of_decide_eq_true rfl,of_decide_eq_true rfl⟩,hw⟩
theorem pS_ok:PnOk pS:=by decide
variable {r0 r1:List Int} {st0 w0:Int} {q:List Int} {ts:List Tm} {up:Bool}
theorem reg_set {r:List Int} (h:Rg r) {k:Nat} (hk:k < 16) (n:Int):(r.set k n)[k]? = some n:=by
 rw [List.getElem?_set_self (by rw [h.len]; exact hk)]
theorem q1:QOk (sX r0 r1 2 2 [1] ts up).t.ps [1]:=⟨fun n hn => by
  rw [List.mem_singleton] at hn
  subst hn
  rfl,by decide,fun i hi hr => by
  have:i = 0 ∨ i = 1:=by have h2:i < 2:=hi; omega
  rcases this with rfl | rfl
  ·have:some (2:Int) = some 1:=hr
   cases this
  ·decide⟩
end Sy
end Go.Fv.Tr
namespace Go.Fv.Tr
open Go Go.Fv Go.Fv.Pl Go.Proofs
variable {G:GV}
namespace Sy
variable {r0 r1:List Int} {i o:List ByteArray} {pgs:List Pa}
def sM (r0 r1:List Int) (i o:List ByteArray) (pgs:List Pa):St:=⟨0,0,0,⟨[⟨r0,0,1,5,0,0⟩,⟨r1,0,1,5,0,0⟩],[0,1],[]⟩,[false],[0],[⟨i,0⟩,⟨o,0⟩],pgs⟩
structure MsOk (l:List ByteArray):Prop where
 len:l.length ≤ 2
 sz:∀ m ∈ l,m.size ≤ 4
structure PgOk (ps:List Pa):Prop where
 len:ps.length = 1
 r:∀ p ∈ ps,p.r = 7
 data:∀ p ∈ ps,p.data.length = 64
 by_:ByOk ps
theorem sM_b (h0:Rg r0) (h1:Rg r1) (hi:MsOk i) (ho:MsOk o) (hp:PgOk pgs):StB (sM r0 r1 i o pgs):=by
 have hrm:room = 140737488355328:=rfl
 refine ⟨fun p hp => ?_,⟨of_decide_eq_true rfl,of_decide_eq_true rfl,of_decide_eq_true rfl⟩,of_decide_eq_true rfl,of_decide_eq_true rfl,of_decide_eq_true rfl,by show pgs.length * 80 ≤ room; rw [hp.len]; decide,fun p hp => ?_,hp.data⟩
 ·simp only [sM,List.mem_cons,List.not_mem_nil,or_false] at hp
  rcases hp with rfl | rfl
  ·exact h0.len
  ·exact h1.len
 ·simp only [sM,List.mem_cons,List.not_mem_nil,or_false] at hp
  rcases hp with rfl | rfl
  ·have:=hi.len
   show i.length * 16 ≤ room
   omega
  ·have:=ho.len
   show o.length * 16 ≤ room
   omega
theorem one_of {ps:List Pa} (h:PgOk ps):∃ p,ps = [p] ∧ p.r = 7:=by
 match ps,h.len,h.r with
 | [p],_,hr => exact ⟨p,rfl,hr p (by simp)⟩
theorem q01M:QOk (sM r0 r1 i o pgs).t.ps [0,1]:=by
 refine ⟨fun n hn => ?_,by decide,fun j hj _ => ?_⟩
 ·simp only [List.mem_cons,List.not_mem_nil,or_false] at hn
  rcases hn with rfl | rfl <;> rfl
 ·have:j < 2:=hj
  have:j = 0 ∨ j = 1:=by omega
  rcases this with rfl | rfl <;> decide
theorem sM_ok (h0:Rg r0) (h1:Rg r1) (hi:MsOk i) (ho:MsOk o) (hp:PgOk pgs):StOk pS (sM r0 r1 i o pgs):=by
 refine ⟨pS_ok,fun k hk => ?_⟩
 have two:∀ {P:Pr → Prop},P ⟨r0,0,1,5,0,0⟩ → P ⟨r1,0,1,5,0,0⟩ → ∀ p ∈ (sM r0 r1 i o pgs).t.ps,P p:=fun a b p hp => by
  simp only [sM,List.mem_cons,List.not_mem_nil,or_false] at hp
  rcases hp with rfl | rfl
  ·exact a
  ·exact b
 have ports:∀ {R:Tp → Po → Prop},R ⟨3,4,2,0⟩ ⟨i,0⟩ → R ⟨4,4,2,0⟩ ⟨o,0⟩ → ∀ x ∈ pS.ports.zip (sM r0 r1 i o pgs).ports,R x.1 x.2:=fun a b x hx => by
  simp only [pS,sM,List.zip_cons_cons,List.zip_nil_right,List.mem_cons,List.not_mem_nil,or_false] at hx
  rcases hx with rfl | rfl
  ·exact a
  ·exact b
 obtain ⟨pg,rfl,hr⟩:=one_of hp
 have hil:=hi.len
 have hol:=ho.len
 have hc:k = 0 ∨ k = 1 ∨ k = 2 ∨ k = 3 ∨ k = 4 ∨ k = 5 ∨ k = 6 ∨ k = 7 ∨ k = 8 ∨ k = 9 ∨ k = 10 ∨ k = 11 ∨ k = 12 ∨ k = 13 ∨ k = 14 ∨ k = 15:=by omega
 rcases hc with rfl | rfl | rfl | rfl | rfl | rfl | rfl | rfl | rfl | rfl | rfl | rfl | rfl | rfl | rfl | rfl
 ·rfl
 ·exact ⟨⟨of_decide_eq_true rfl,of_decide_eq_true rfl⟩,of_decide_eq_true rfl,of_decide_eq_true rfl⟩
 ·exact ⟨rfl,rfl,rfl,rfl,rfl⟩
 ·exact two (h0.num (by decide) (by decide)) (h1.num (by decide) (by decide))
 ·exact two (of_decide_eq_true rfl) (of_decide_eq_true rfl)
 ·exact two (show ObjOk pS 0 0 by decide) (show ObjOk pS 0 0 by decide)
 ·exact q01M
 ·exact .nil
 ·refine ⟨fun a ha => (by cases ha),fun i hi p hp hw1 => ?_⟩
  have hm:p ∈ (sM r0 r1 _ o [pg]).t.ps:=List.mem_of_getElem? hp
  exact absurd hw1 (two (P:=fun p => p.wait ≠ 1) (show (0:Int) ≠ 1 by decide) (show (0:Int) ≠ 1 by decide) p hm)
 ·show ∀ n ∈ [(0:Int)],CtOk n
  decide
 ·refine ports ⟨?_,fun m hm => ?_⟩ ⟨?_,fun m hm => ?_⟩
  ·show ((i.length:Nat):Int) ≤ 2
   omega
  ·have:=hi.sz m hm
   show ((m.size:Nat):Int) ≤ 4
   omega
  ·show ((o.length:Nat):Int) ≤ 2
   omega
  ·have:=ho.sz m hm
   show ((m.size:Nat):Int) ≤ 4
   omega
 ·exact ports ⟨⟨Int.le_refl 0,(by decide:(0:Int) ≤ 255)⟩,.inl rfl⟩ ⟨⟨Int.le_refl 0,(by decide:(0:Int) ≤ 255)⟩,.inl rfl⟩
 ·intro x hx
  have hx:x ∈ [((⟨7,⟨#[]⟩⟩:Gp),pg)]:=hx
  rw [List.mem_singleton] at hx
  subst hx
  exact hr.symm
 ·exact two (fun g => absurd g (of_decide_eq_true rfl)) (fun g => absurd g (of_decide_eq_true rfl))
 ·exact two (fun g => absurd g (of_decide_eq_true rfl)) (fun g => absurd g (of_decide_eq_true rfl))
 ·exact two (fun g => absurd g (of_decide_eq_true rfl)) (fun g => absurd g (of_decide_eq_true rfl))
theorem sM_can (h0:Rg r0) (h1:Rg r1) (hi:MsOk i) (ho:MsOk o) (hp:PgOk pgs):Can (sM r0 r1 i o pgs) 0 0 ∧ Can (sM r0 r1 i o pgs) 1 0:=by
 have hb:=sM_b h0 h1 hi ho hp
 have hok:=sM_ok h0 h1 hi ho hp
 have rg:∀ {r:List Int},Rg r → ∀ k,k < 16 → RegOk ((r[k]?).getD 0):=fun h k hk => by
  rw [List.getElem?_eq_getElem (by rw [h.len]; exact hk)]
  exact h.ok _ (List.getElem_mem _)
 exact ⟨⟨hok.tab hb.wp,rfl,by decide,fun k hk => rg h0 k hk⟩,⟨hok.tab hb.wp,rfl,by decide,fun k hk => rg h1 k hk⟩⟩
theorem fault0 {ps:List Pa} (h:PgOk ps) {a:Nat} (ha:a < 64):faultAt ps 2 5 a = 0 ∧ faultAt ps 1 4 a = 0:=by
 obtain ⟨p,rfl,hr⟩:=one_of h
 have e:a / 64 = 0:=by omega
 have z2:¬ andI 7 2 = 0:=by decide
 have z1:¬ andI 7 1 = 0:=by decide
 unfold faultAt
 rw [e]
 dsimp only [List.getElem?_cons_zero]
 rw [hr]
 exact ⟨if_neg z2,if_neg z1⟩
theorem span0 {ps:List Pa} (h:PgOk ps) {a n:Nat} (ha:a + n ≤ 64):spanB ps 2 5 a n = 0 ∧ spanB ps 1 4 a n = 0 :=
 ⟨spanB_none fun j hj => (fault0 h (by omega)).1,spanB_none fun j hj => (fault0 h (by omega)).2⟩
theorem putB_ok {ps:List Pa} (h:PgOk ps) (a:Nat) (b:UInt8):PgOk (putB ps a b):=by
 refine ⟨by rw [putB_len]; exact h.len,fun p hp => ?_,fun p hp => ?_,fun p hp v hv => ?_⟩
 ·obtain ⟨q,hq,rfl | rfl⟩:=mem_modify hp
  ·exact h.r _ hq
  ·exact h.r q hq
 ·obtain ⟨q,hq,rfl | rfl⟩:=mem_modify hp
  ·exact h.data _ hq
  ·simpa using h.data q hq
 ·obtain ⟨q,hq,rfl | rfl⟩:=mem_modify hp
  ·exact h.by_ _ hq v hv
  ·rcases List.mem_or_eq_of_mem_set hv with hv | rfl
   ·exact h.by_ q hq v hv
   ·have:=b.toNat_lt
    omega
theorem inP_ok:∀ {l:List UInt8} {ps:List Pa} {a:Nat},PgOk ps → PgOk (inP ps a l)
 | [],ps,a,h => h
 | b :: l,ps,a,h => (show PgOk (inP (putB ps a b) (a + 1) l) from inP_ok (putB_ok h a b))
theorem byteAt_ne {ps : List Pa} {a t : Nat} {b : UInt8} (h : t ≠ a) : byteAt (putB ps a b) t = byteAt ps t := by
  unfold byteAt putB
  rw [List.getElem?_modify]
  by_cases e:a / 64 = t / 64
  · simp only [e, if_true]
    cases ps[t / 64]? with
    | none => rfl
    | some p =>
      have:a % 64 ≠ t % 64:=by omega
      show ((p.data.set (a % 64) _)[t % 64]?).getD 0 = (p.data[t % 64]?).getD 0
      rw [List.getElem?_set_ne this]
  · simp only [e,if_false]
    cases ps[t / 64]? <;> rfl
theorem byteAt_in:∀ {l:List UInt8} {ps:List Pa} {a t:Nat},t < a → byteAt (inP ps a l) t = byteAt ps t
 | [],_,_,_,_ => rfl
 | b :: l,ps,a,t,h => by rw [inP,byteAt_in (show t < a + 1 by omega),byteAt_ne (by omega)]
theorem out_in : ∀ {l : List UInt8} {ps : List Pa} {a : Nat}, PgOk ps → a + l.length ≤ 64 → outP (inP ps a l) a l.length = l
  | [],ps,a,_,_ => rfl
  | b :: l, ps, a, h, hl => by
    rw [List.length_cons] at hl
    have ih:=out_in (l:=l) (ps:=putB ps a b) (a:=a + 1) (putB_ok h a b) (by omega)
    unfold outP at ih ⊢
    rw [List.length_cons,List.range_succ_eq_map,List.map_cons,List.map_map,inP]
    have e0 : UInt8.ofNat (byteAt (inP (putB ps a b) (a + 1) l) (a + 0)).toNat = b := by
      show UInt8.ofNat (byteAt (inP (putB ps a b) (a + 1) l) a).toNat = b
      rw [byteAt_in (Nat.lt_succ_self a)]
      obtain ⟨p,rfl,hr⟩:=one_of h
      have hd:=h.data p (by simp)
      have e1:a / 64 = 0:=by omega
      unfold byteAt putB
      rw [e1]
      have h2:a % 64 < p.data.length:=by rw [hd]; omega
      have:((p.data.set (a % 64) (b.toNat:Int))[a % 64]?) = some (b.toNat:Int):=List.getElem?_set_self h2
      show UInt8.ofNat (((p.data.set (a % 64) (b.toNat:Int))[a % 64]?).getD 0).toNat = b
      rw [this]
      simp
    rw [e0]
    congr 1
    refine Eq.trans (List.map_congr_left fun j _ => ?_) ih
    show UInt8.ofNat (byteAt _ (a + (j + 1))).toNat = _
    rw [show a + (j + 1) = a + 1 + j by omega]
end Sy
end Go.Fv.Tr
namespace Go.Fv.Tr
open Go Go.Fv Go.Fv.Pl Go.Proofs
variable {G:GV}
namespace Sy
variable {l m:List V} {s:St} {p:Pn} {x y z a b c d x' y' z' u v w g:V} {pr:List (List V)} {k:List V} {H H' K:Heap} {i:Nat} {pc tk ft:Int} {rep:V}
def doTake (p:Pn) (s:St) (pc tk:Int):St :=
 if regAt s pc 1 < (p.sems.length:Int) then
  if timeOk (regAt s pc 2) then (if 0 < s.sems.getD (regAt s pc 1).toNat 0 then setR { s with sems:=s.sems.set (regAt s pc 1).toNat (s.sems.getD (regAt s pc 1).toNat 0 - 1) } pc 1 0 else doWait s pc tk 3 (regAt s pc 1))
  else setR s pc 1 4294967295
 else setR s pc 1 4294967295
end Sy
end Go.Fv.Tr
namespace Go.Fv.Tr
open Go Go.Fv Go.Fv.Pl Go.Proofs
variable {G:GV}
namespace Sy
variable {l m:List V} {s:St} {p:Pn} {x y z a b c d x' y' z' u v w g:V} {pr:List (List V)} {k:List V} {H H' K:Heap} {i:Nat} {pc tk ft:Int} {rep:V}
theorem tabOk_setR {s:St} (h:TabOk s.t) {pc:Int} {q:Pr} (hq:at? s.t.ps pc = some q) {k:Nat} (hk:0 < k) (n:Int):TabOk (setR s pc k n).t:=by
 obtain ⟨⟨g1,g2,g3,g4,g5,g6,g7⟩,r2,r3⟩:=h.at hq
 exact TabOk_put (f:=fun q => { q with regs:=q.regs.set k n }) h hq h.ts ⟨⟨by rw [← g1]; exact List.getElem?_set_ne (by omega),g2,g3,g4,g5,g6,g7⟩,r2,r3⟩ (fun _ _ => Iff.rfl) (fun _ _ => Iff.rfl) (show pc ∈ s.t.q ↔ q.state = 1 from mem_queue (p:=q) h hq) h.q.2.1
theorem at_setR {s:St} {pc:Int} {q:Pr} (hq:at? s.t.ps pc = some q) (k:Nat) (n:Int):at? (setR s pc k n).t.ps pc = some { q with regs:=q.regs.set k n }:=by
 show at? (setP s.t.ps pc _) pc = _
 rw [at?_set (at?_lt hq).1,if_pos rfl,hq]
 rfl
theorem regAt_setR {s:St} {pc:Int} {q:Pr} (hq:at? s.t.ps pc = some q) (k j:Nat) (n:Int):regAt (setR s pc k n) pc j = if j = k ∧ k < q.regs.length then n else regAt s pc j:=by
 unfold regAt
 rw [at_setR hq,hq]
 show ((q.regs.set k n)[j]?).getD 0 = _
 by_cases e:k = j
 ·subst e
  by_cases hl:k < q.regs.length
  ·rw [if_pos ⟨rfl,hl⟩,List.getElem?_set_self hl]; rfl
  ·rw [if_neg (fun g => hl g.2),List.set_eq_of_length_le (by omega)]
   rfl
 ·rw [if_neg (fun g => e g.1.symm),List.getElem?_set_ne e]
  rfl
theorem Can.setR {s:St} {pc tk:Int} (h:Can s pc tk) {k:Nat} (hk:0 < k) {n:Int} (hn:RegOk n):Can (setR s pc k n) pc tk:=by
 obtain ⟨q,h1,h2⟩:=Option.map_eq_some_iff.1 h.run
 refine ⟨tabOk_setR h.ok h1 hk n,?_,h.tk,fun j hj => ?_⟩
 ·rw [at_setR h1]
  simpa using h2
 ·rw [regAt_setR h1]
  split
  ·exact hn
  ·exact h.reg j hj
end Sy
end Go.Fv.Tr
namespace Go.Fv.Tr
open Go Go.Fv Go.Fv.Pl Go.Proofs
variable {G:GV}
namespace Sy
variable {l m:List V} {s:St} {p:Pn} {x y z a b c d x' y' z' u v w g:V} {pr:List (List V)} {k:List V} {H H' K:Heap} {i:Nat} {pc tk ft:Int} {rep:V}
end Sy
end Go.Fv.Tr
namespace Go.Fv.Tr
open Go Go.Fv Go.Fv.Pl Go.Proofs
variable {G:GV}
namespace Sy
variable {l m:List V} {s:St} {p:Pn} {x y z a b c d u v w g:V} {pr:List (List V)} {K:Heap} {pc tk:Int}
def RgOk (ps:List Pr):Prop:=∀ q ∈ ps,∀ r ∈ q.regs,RegOk r
theorem RgOk.setP {ps:List Pr} (h:RgOk ps) {n:Int} {f:Pr → Pr} (hf:∀ q ∈ ps,∀ r ∈ (f q).regs,RegOk r):RgOk (setP ps n f):=fun q hq => by
 obtain ⟨i,hi⟩:=List.mem_iff_getElem?.1 hq
 unfold Pl.setP at hi
 rw [List.getElem?_modify] at hi
 obtain ⟨q0,h0,h1⟩:=Option.map_eq_some_iff.1 hi
 have hm:q0 ∈ ps:=List.mem_iff_getElem?.2 ⟨i,h0⟩
 split at h1
 ·subst h1
  exact hf q0 hm
 ·subst h1
  exact h q0 hm
theorem RgOk.setR {s:St} (h:RgOk s.t.ps) {k:Nat} {n:Int} (hn:RegOk n):RgOk (setR s pc k n).t.ps:=h.setP fun q hq r hr => (List.mem_or_eq_of_mem_set hr).elim (h q hq r) fun e => e ▸ hn
theorem RgOk.reg {s : St} (h : RgOk s.t.ps) (k : Nat) : RegOk (regAt s pc k) := by
  unfold regAt
  cases h1:at? s.t.ps pc with
  | none => exact (show RegOk 0 from ⟨by decide,by decide⟩)
  | some q =>
    have hm : q ∈ s.t.ps := by
      unfold at? at h1
      split at h1
      · exact List.mem_iff_getElem?.2 ⟨_,h1⟩
      · cases h1
    show RegOk ((q.regs[k]?).getD 0)
    cases h2:q.regs[k]? with
    | none => exact (show RegOk 0 from ⟨by decide,by decide⟩)
    | some r => exact h q hm r (List.mem_iff_getElem?.2 ⟨_,h2⟩)
theorem RgOk.wait {wk o:Int} (h:RgOk s.t.ps):RgOk (doWait s pc tk wk o).t.ps:=by
 unfold doWait
 split
 ·exact h.setR ⟨by omega,by omega⟩
 ·exact RgOk.setP (f:=blockP wk o) h fun q hq r hr => h q hq r hr
theorem RgOk.take (h:RgOk s.t.ps):RgOk (doTake p s pc tk).t.ps:=by
 unfold doTake
 split
 ·split
  ·split
   ·exact RgOk.setR (s:={ s with sems:=_ }) h ⟨by omega,by omega⟩
   ·exact h.wait
  ·exact h.setR ⟨by omega,by omega⟩
 ·exact h.setR ⟨by omega,by omega⟩
end Sy
end Go.Fv.Tr
namespace Go.Fv.Tr
open Go Go.Fv Go.Fv.Pl Go.Proofs
variable {G:GV}
namespace Sy
def crP (n:Nat) (c:Int):Pn:=⟨0,false,[⟨7,⟨#[]⟩⟩],(List.range n).map fun i => ⟨0,((i % 3:Nat):Int),true⟩,[],0,[c]⟩
def crS (t:Tab) (k:Int):St:=⟨0,0,0,t,[],[k],[],[⟨7,false,List.replicate 64 0⟩]⟩
structure Cr (n:Nat) (t:Tab) (k:Int):Prop where
 ok:TabOk t
 len:t.ps.length = n
 wp:∀ q ∈ t.ps,Wp q
 rg:RgOk t.ps
 st:∀ q ∈ t.ps,q.state = 1 ∨ waits 3 0 q
 kk:0 ≤ k ∧ k ≤ 255
 no:0 < k → ∀ q ∈ t.ps,q.state = 1
variable {n:Nat} {t:Tab} {k c:Int} {p q:Int}
theorem Cr.stB (h:Cr n t k):StB (crS t k):=by
 have hb:=small_of h.ok
 refine ⟨h.wp,⟨hb.1,hb.2,hb.3⟩,of_decide_eq_true rfl,of_decide_eq_true rfl,of_decide_eq_true rfl,of_decide_eq_true rfl,fun p hp => (by cases hp),fun p hp => ?_⟩
 rw [show (crS t k).pages = [⟨7,false,List.replicate 64 0⟩] from rfl,List.mem_singleton] at hp
 subst hp
 exact List.length_replicate
def wn (ps:List Pr):Nat:=ps.countP fun q => decide (q.state = 2)
theorem wn_modify {f : Pr → Pr} : ∀ {ps : List Pr} {i : Nat} {p : Pr}, ps[i]? = some p → wn (ps.modify i f) + (if p.state = 2 then 1 else 0) = wn ps + (if (f p).state = 2 then 1 else 0)
  | [],_,_,h => by simp at h
  | a :: ps, 0, p, h => by
    simp only [List.getElem?_cons_zero,Option.some.injEq] at h
    subst h
    simp only [List.modify_zero_cons,wn,List.countP_cons,decide_eq_true_eq]
    omega
  | a :: ps, i + 1, p, h => by
    simp only [List.getElem?_cons_succ] at h
    have:=wn_modify (f:=f) h
    simp only [wn] at this
    simp only [List.modify_succ_cons,wn,List.countP_cons,decide_eq_true_eq]
    omega
theorem wn_setP {ps:List Pr} {f:Pr → Pr} {p:Pr} (h:at? ps q = some p):wn (setP ps q f) + (if p.state = 2 then 1 else 0) = wn ps + (if (f p).state = 2 then 1 else 0):=wn_modify (at?_some.1 h).2
theorem mem_setP {ps:List Pr} {f:Pr → Pr} {r:Pr} (h:r ∈ setP ps q f):∃ r0 ∈ ps,r = r0 ∨ r = f r0:=by
 obtain ⟨i,hi⟩:=List.mem_iff_getElem?.1 h
 unfold Pl.setP at hi
 rw [List.getElem?_modify] at hi
 obtain ⟨r0,e1,e2⟩:=Option.map_eq_some_iff.1 hi
 refine ⟨r0,List.mem_of_getElem? e1,?_⟩
 split at e2
 ·exact .inr e2.symm
 ·exact .inl e2.symm
theorem at_mem {ps:List Pr} {p:Pr} (h:at? ps q = some p):p ∈ ps:=List.mem_of_getElem? (at?_some.1 h).2
theorem Cr.setR (h:Cr n t k) {p:Pr} (hp:at? t.ps q = some p) (hs:p.state = 1) {j:Nat} (hj:j ≠ 0) {m:Int} (hm:RegOk m) :
  ∃ u,Sy.setR (crS t k) q j m = crS u k ∧ Cr n u k ∧ at? u.ps q = some { p with regs:=p.regs.set j m } ∧ wn u.ps = wn t.ps:=by
 have h0:=at?_lt hp
 refine ⟨{ t with ps:=setP t.ps q (fun q => { q with regs:=q.regs.set j m }) },rfl,⟨tabOk_setR (s:=crS t k) h.ok hp (Nat.pos_of_ne_zero hj) m,by rw [setP_len]; exact h.len,fun r hr => (h.stB.setR q j m).wp r hr,RgOk.setR (s:=crS t k) h.rg hm,fun r hr => ?_,h.kk,fun hk r hr => ?_⟩,?_,?_⟩
 ·obtain ⟨r0,h1,rfl | rfl⟩:=mem_setP hr
  ·exact h.st _ h1
  ·exact h.st r0 h1
 ·obtain ⟨r0,h1,rfl | rfl⟩:=mem_setP hr
  ·exact h.no hk _ h1
  ·exact h.no hk r0 h1
 ·show at? (setP t.ps q _) q = _
  rw [at?_set h0.1,if_pos rfl,hp]
  rfl
 ·have:=wn_setP (f:=fun q => { q with regs:=q.regs.set j m }) hp
  show wn (setP t.ps q _) = _
  simp only [hs] at this
  omega
theorem Cr.wake (h:Cr n t k) {b:Int} {p:Pr} (hp:at? t.ps b = some p) (hs:p.state = 2):Cr n (t.wake b 0) k ∧ wn (t.wake b 0).ps + 1 = wn t.ps:=by
 refine ⟨⟨h.ok.wake hp hs 0,by rw [Tab.wake,setP_len]; exact h.len,fun r hr => ?_,?_,fun r hr => ?_,h.kk,fun hk r hr => ?_⟩,?_⟩
 ·obtain ⟨r0,h1,rfl | rfl⟩:=mem_setP hr
  ·exact h.wp _ h1
  ·have:=h.wp r0 h1
   unfold Wp at this ⊢
   simpa [wakeP] using this
 ·exact RgOk.setP (f:=wakeP 0) h.rg fun q hq r hr => (List.mem_or_eq_of_mem_set hr).elim (h.rg q hq r) fun e => e ▸ (show RegOk 0 from ⟨by decide,by decide⟩)
 ·obtain ⟨r0,h1,rfl | rfl⟩:=mem_setP hr
  ·exact h.st _ h1
  ·exact .inl rfl
 ·have:=h.no hk p (at_mem hp)
  omega
 ·have:=wn_setP (f:=wakeP 0) hp
  rw [if_pos hs,if_neg (show ¬ (wakeP 0 p).state = 2 from fun g => by cases g)] at this
  exact this
end Sy
end Go.Fv.Tr
namespace Go.Fv.Tr
open Go Go.Fv Go.Fv.Pl Go.Proofs
variable {G:GV}
namespace Sy
variable {K:Heap}
end Sy
end Go.Fv.Tr
