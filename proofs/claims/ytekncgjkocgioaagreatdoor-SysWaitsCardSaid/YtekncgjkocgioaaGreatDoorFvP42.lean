/-
  The chapter's plan and state, in memory. By an AI agent; no person has read it.
-/
import Derived.Test.YtekncgjkocgioaaGreatDoorFvP41
set_option linter.unusedVariables false
set_option linter.unusedSimpArgs false
set_option linter.unusedSectionVars false
/-! The chapter's plan and state, in memory. -/
namespace Go.Fv.Tr
open Go Go.Fv Go.Fv.Pl Go.Proofs
variable {G : GV}
namespace Sy
variable {l m : List V} {s : St} {p : Pn} {x y z a b c d x' y' z' u v w g : V} {pr : List (List V)} {k : List V} {H H' K : Heap} {i : Nat} {pc tk ft : Int} {rep : V}
def P0 : Pr := ⟨[0, 0, 0, 0, 0, 0, 0, 0, 0, 0, 0, 0, 0, 0, 0, 0], 0, 1, 5, 0, 0⟩
def pS : Pn := ⟨0, false, [⟨7, ⟨#[]⟩⟩], [⟨0, 5, true⟩, ⟨0, 5, true⟩], [⟨3, 4, 2, 0⟩, ⟨4, 4, 2, 0⟩], 1, [0]⟩
def sS : St := ⟨0, 0, 0, ⟨[P0, P0], [0, 1], []⟩, [false], [0], [⟨[], 0⟩, ⟨[], 0⟩], [⟨7, false, List.replicate 64 0⟩]⟩
def litP : List V := [i64 0, .bool false, .own 2 (pS.pages.map gpR), .own 3 (pS.procs.map cpR), .own 4 (pS.ports.map tpR), i64 1, .own 1 (pS.sems.map intRow)]
def litS : List V := [i64 0, i64 0, i64 0, .own 21 (sS.t.ps.map prRow), .own 1 (sS.t.q.map intRow), .nils, .own 1 (sS.up.map boR), .own 1 (sS.sems.map intRow), .own 2 [[.nils, i64 0], [.nils, i64 0]], .own 66 (sS.pages.map paR)]
set_option maxRecDepth 100000 in
theorem small_lit:(semC (cfg G) 50 13 11 [] Heap.empty).bind (fun r => giveV r.2 r.1) = some (.tuple [.agg litP,.agg litS]):=by kernel_rfl
structure MP (H:Heap) (l:List V) (p:Pn) (a b c d:V):Prop where
 eq:l = [i64 p.id,.bool p.mob,a,b,c,i64 p.ev,d]
 pages:Own H a 2 (p.pages.map gpR)
 procs:Own H b 3 (p.procs.map cpR)
 ports:Own H c 4 (p.ports.map tpR)
 sems:Own H d 1 (p.sems.map intRow)
theorem MP.frame {P:Nat → Prop} (h:MP H l p a b c d) (f:Frame H H' P) (hp:∀ n ∈ lv [a,b,c,d],¬ P n):MP H' l p a b c d:=by
 have hl:∀ q ∈ [a,b,c,d],∀ n,loc q = some n → ¬ P n:=fun q hq n hn => hp n (mem_lv.2 ⟨q,hq,hn⟩)
 exact ⟨h.eq,h.pages.frame f (hl _ (by simp)),h.procs.frame f (hl _ (by simp)),h.ports.frame f (hl _ (by simp)),h.sems.frame f (hl _ (by simp))⟩
theorem flat_gps (l : List Gp) : flatRows (l.map gpR) = true := by simp [flatRows, gpR, V.flat]
theorem flat_cps (l : List Cp) : flatRows (l.map cpR) = true := by simp [flatRows, cpR, V.flat]
theorem flat_tps (l : List Tp) : flatRows (l.map tpR) = true := by simp [flatRows, tpR, V.flat]
theorem MP.thaw (h:MP H l p a b c d) (hb:p.pages.length ≤ big ∧ p.procs.length ≤ big ∧ p.ports.length ≤ big ∧ p.sems.length ≤ big):∃ l' a' b' c' d',thawV true H (.agg l) = some (.agg l') ∧ PnS l' p a' b' c' d':=by
 obtain ⟨a',e1,s1⟩:=h.pages.thaw (flat_gps _) true
 obtain ⟨b',e2,s2⟩:=h.procs.thaw (flat_cps _) true
 obtain ⟨c',e3,s3⟩:=h.ports.thaw (flat_tps _) true
 obtain ⟨d',e4,s4⟩:=h.sems.thaw (flat_ints _) true
 refine ⟨_,a',b',c',d',?_,rfl,s1,s2,s3,s4,hb⟩
 rw [h.eq]
 have i:∀ k:Int,Fv.thaw true H (i64 k) = some (i64 k):=fun k => rfl
 have ib:∀ k:Bool,Fv.thaw true H (.bool k) = some (.bool k):=fun k => rfl
 simp only [thawV,List.mapM_cons,List.mapM_nil,i,ib,e1,e2,e3,e4]
 rfl
theorem small_new (hK : K.floor ≤ K.next) : Run (callV (cfg G) (sem (cfg G) 13) 11 []) K fun r K' => ∃ M lp a b c d ls x y z u v w g pr, r = .tuple [.agg lp, .agg ls] ∧ MP K' lp pS a b c d ∧ MS K' ls sS x y z u v w g pr ∧ Frame K K' (fun _ => False) ∧
    (∀ n ∈ lv [a, b, c, d], K.next ≤ n ∧ n < M) ∧ ∀ n ∈ lv [x, y, z, u, v, w, g] ++ lr pr, M ≤ n := by
  have h := small_lit (G := G)
  cases e : semC (cfg G) 50 13 11 [] Heap.empty with
  | none => rw [e] at h; cases h
  | some r =>
    rw [e] at h
    simp only [Option.bind_some] at h
    refine callV_own rfl (bs := []) rfl ⟨r.1, r.2, ?_, _, h, ?_⟩
    · exact sem_le 50 13 _ _ _ _ e
    · have tb : ∀ q : Bool, take1 (.bool q) = M.ret (.bool q) := fun _ => rfl
      have ti : ∀ n : Int, take1 (i64 n) = M.ret (i64 n) := fun _ => rfl
      have go : ∀ (z : Nat) (rows : List (List V)), Gv (.own z rows) z rows := fun _ _ => .inr rfl
      simp only [takeV, takes2, take2, Run.bind, Run.ret]
      show Run (takes litP) K _
      unfold litP
      simp only [takes, ti, tb, Run.bind, Run.ret]
      refine ((go _ _).take hK).mono fun a K1 ⟨oa, fa, la⟩ => ?_
      have k1 : K1.floor ≤ K1.next := by rw [fa.floor]; exact Nat.le_trans hK fa.next
      refine ((go _ _).take k1).mono fun b K2 ⟨ob, fb, lb⟩ => ?_
      have k2 : K2.floor ≤ K2.next := by rw [fb.floor]; exact Nat.le_trans k1 fb.next
      refine ((go _ _).take k2).mono fun c K3 ⟨oc, fc, lc⟩ => ?_
      have k3 : K3.floor ≤ K3.next := by rw [fc.floor]; exact Nat.le_trans k2 fc.next
      refine ((go _ _).take k3).mono fun d K4 ⟨od, fd, ld⟩ => ?_
      have k4 : K4.floor ≤ K4.next := by rw [fd.floor]; exact Nat.le_trans k3 fd.next
      have hw : WG (.own 2 [[.nils, i64 0], [.nils, i64 0]]) sS.ports := .inr ⟨_, .inl rfl, .cons ⟨.nils, rfl, .inl ⟨.inl rfl, rfl⟩, by decide⟩ (.cons ⟨.nils, rfl, .inl ⟨.inl rfl, rfl⟩, by decide⟩ .nil), fun _ => rfl⟩
      refine (takes_ms (s := sS) (go _ _) (go _ _) (.inl ⟨.inl rfl, rfl⟩) (go _ _) (go _ _) hw (go _ _) k4).mono fun ls K5 ⟨x, y, z, u, v, w, g, pr, ms, f5, hge⟩ => ?_
      have n1 := fa.next
      have n2 := fb.next
      have n3 := fc.next
      have n4 := fd.next
      refine ⟨K4.next, _, a, b, c, d, ls, x, y, z, u, v, w, g, pr, rfl, ⟨rfl, (((oa.frame fb fun _ _ => id).frame fc fun _ _ => id).frame fd fun _ _ => id).frame f5 fun _ _ => id, ((ob.frame fc fun _ _ => id).frame fd fun _ _ => id).frame f5 fun _ _ => id, (oc.frame fd fun _ _ => id).frame f5 fun _ _ => id, od.frame f5 fun _ _ => id⟩, ms, (((fa.tr fb).tr fc).tr fd).tr f5, fun n hn => ?_, hge⟩
      obtain ⟨q, hq, hl⟩ := mem_lv.1 hn
      simp only [List.mem_cons, List.not_mem_nil, or_false] at hq
      rcases hq with rfl | rfl | rfl | rfl
      · have := la n hl; have := oa.loc_lt hl; omega
      · have := lb n hl; have := ob.loc_lt hl; omega
      · have := lc n hl; have := oc.loc_lt hl; omega
      · have := ld n hl; have := od.loc_lt hl; omega
theorem ms_store (ms:MS H l s x y z u v w g pr) (hb:StB s) {pc:Int} (hpc:0 ≤ pc ∧ pc < s.t.ps.length) {k:Nat} (hk:k < 16) (n:Int):∃ lx bk row,loc x = some lx ∧ idxV 21 x (.int .i64 pc) = some (.ptr lx pc.toNat 0) ∧ H.blk lx = some bk ∧ bk.rows[pc.toNat]? = some row ∧ H.floor ≤ lx ∧ lx < H.next ∧ k + 1 ≤ row.length ∧
  MS (H.set lx ⟨bk.sz,bk.rows.set pc.toNat (row.take k ++ [.int .u32 n] ++ row.drop (k + 1))⟩) l (setR s pc k n) x y z u v w g pr:=by
 have hlt:pc.toNat < (s.t.ps.map prRow).length:=by rw [List.length_map]; omega
 obtain ⟨lx,bk,h1,h2,h3,h4,h5⟩:=ms.ps.idx (k:=.i64) hlt
 rw [Int.toNat_of_nonneg hpc.1] at h2
 rw [List.getElem_map] at h4
 have hlt':pc.toNat < s.t.ps.length:=by omega
 have hw:=hb.wp _ (List.getElem_mem hlt')
 refine ⟨lx,bk,_,h1,h2,h3,h4,h5,ms.ps.loc_lt h1,by rw [pr_len hw]; omega,?_⟩
 have er:(setR s pc k n).t.ps.map prRow = (s.t.ps.map prRow).set pc.toNat ((prRow s.t.ps[pc.toNat]).take k ++ [.int .u32 n] ++ (prRow s.t.ps[pc.toNat]).drop (k + 1)):=by
  rw [prRow_set hw hk]
  have:=setP_rows (f:=fun q => { q with regs:=q.regs.set k n }) hlt'
  rw [Int.toNat_of_nonneg hpc.1] at this
  exact this
 obtain ⟨d1,d2⟩:=nd_ne (A:=[]) (B:=[y,z,u,v,w,g]) ms.nd h1
 have f:Frame H (H.set lx ⟨bk.sz,bk.rows.set pc.toNat ((prRow s.t.ps[pc.toNat]).take k ++ [.int .u32 n] ++ (prRow s.t.ps[pc.toNat]).drop (k + 1))⟩) (fun m => m = lx):=Frame.set _ _ rfl
 refine ⟨ms.eq,?_,ms.q.frame f (d1 _ (by simp)),ms.ts.frame f (d1 _ (by simp)),ms.up.frame f (d1 _ (by simp)),ms.sems.frame f (d1 _ (by simp)),ms.ports.frame f (d1 _ (by simp)),ms.pages.frame f (d1 _ (by simp)),ms.row.frame f d2,ms.nd⟩
 rw [er]
 exact ms.ps.put h1 h3 _
theorem do_mem (hA:BErrs G) (n:Nat) {lp ls:List V} (mp:MP K lp p a b c d) (hbp:p.pages.length ≤ big ∧ p.procs.length ≤ big ∧ p.ports.length ≤ big ∧ p.sems.length ≤ big) (ms:MS K ls s x y z u v w g pr)
  (hb:StB s) (hok:StOk p s) (hpc:0 ≤ pc ∧ pc < s.t.ps.length) (hst:(at? s.t.ps pc).map Pr.state = some 1) (htk:0 ≤ tk ∧ tk ≤ 10000) {call:Nat} (hc:call < 15) {s':St}
  (meth:∀ {H:Heap} {i:Nat} {a b c d x y z u v w g:V} {pr:List (List V)},ClX H i p s pc tk .nils 0 a b c d x y z u v w g pr → H.floor = 0 →
   Run (callV (cfg G) (sem (cfg G) (n + 10)) (39 + call) [.ptr i 0 0]) H fun r H' => r = .tuple [] ∧ Cl H i p s' pc tk .nils 0 (fp i x y z u v w g pr) H')
  (hK:K.floor ≤ K.next):Run (callV (cfg G) (sem (cfg G) (n + 11)) 10 [.agg lp,.agg ls,i64 pc,i64 (call:Nat),i64 tk]) K (NewRes K s'):=by
 obtain ⟨lp',a',b',c',d',e1,hp⟩:=mp.thaw hbp
 obtain ⟨ls',x',y',z',u',v',w',g',pr',e2,hs⟩:=ms.thaw hb
 refine Run.callOwn rfl (bs:=[.agg lp',.agg ls',i64 pc,i64 (call:Nat),i64 tk]) ?_ (by simp [hp.closedV,hs.closedV,cI]) (do_gen hA n hp hs hb hok hpc hst htk hc meth hK)
 have i:∀ k:Int,thawV true K (i64 k) = some (i64 k):=fun k => rfl
 simp only [List.mapM_cons,List.mapM_nil,e1,e2,i]
 rfl
end Sy
end Go.Fv.Tr
namespace Go.Fv.Tr
open Go Go.Fv Go.Fv.Pl Go.Proofs
variable {G : GV}
namespace Sy
def Z16 : List Int := [0, 0, 0, 0, 0, 0, 0, 0, 0, 0, 0, 0, 0, 0, 0, 0]
def sX (r0 r1 : List Int) (st0 w0 : Int) (q : List Int) (ts : List Tm) (up : Bool) : St := ⟨0, 0, 0, ⟨[⟨r0, 0, st0, 5, w0, 0⟩, ⟨r1, 0, 1, 5, 0, 0⟩], q, ts⟩, [up], [0], [⟨[], 0⟩, ⟨[], 0⟩], [⟨7, false, List.replicate 64 0⟩]⟩
structure Rg (r:List Int):Prop where
 len:r.length = 16
 z:r[0]? = some 0
 ok:∀ n ∈ r,RegOk n
theorem Rg.zero:Rg Z16:=⟨rfl,rfl,fun n hn => by
 have:n = 0:=by simpa [Z16] using hn
 subst this
 unfold RegOk
 omega⟩
theorem Rg.set {r:List Int} (h:Rg r) {k:Nat} (hk:k ≠ 0) {n:Int} (hn:RegOk n):Rg (r.set k n):=⟨by simp [h.len],by rw [List.getElem?_set_ne hk]; exact h.z,fun m hm => by
 rcases List.mem_or_eq_of_mem_set hm with h' | rfl
 ·exact h.ok m h'
 ·exact hn⟩
theorem Rg.num {r : List Int} (h : Rg r) {st w : Int} (hs : 0 ≤ st ∧ st ≤ 3) (hw : 0 ≤ w ∧ w ≤ 4) : NumOk ⟨r, 0, st, 5, w, 0⟩ := ⟨by unfold reg0; rw [h.z]; rfl, hs, ⟨of_decide_eq_true rfl, of_decide_eq_true rfl⟩, hw⟩
theorem pS_ok : PnOk pS := by decide
variable {r0 r1 : List Int} {st0 w0 : Int} {q : List Int} {ts : List Tm} {up : Bool}
theorem sX_b (h0:Rg r0) (h1:Rg r1) (hq:q.length ≤ 8) (ht:ts.length ≤ 8):StB (sX r0 r1 st0 w0 q ts up):=by
 refine ⟨fun p hp => ?_,⟨of_decide_eq_true rfl,?_,?_⟩,of_decide_eq_true rfl,of_decide_eq_true rfl,of_decide_eq_true rfl,of_decide_eq_true rfl,fun p hp => ?_,fun p hp => ?_⟩
 ·simp only [sX,List.mem_cons,List.not_mem_nil,or_false] at hp
  rcases hp with rfl | rfl
  ·exact h0.len
  ·exact h1.len
 ·show q.length * 8 ≤ room
  unfold room; omega
 ·show ts.length * 16 ≤ room
  unfold room; omega
 ·simp only [sX,List.mem_cons,List.not_mem_nil,or_false] at hp
  rcases hp with rfl | rfl <;> decide
 ·simp only [sX,List.mem_cons,List.not_mem_nil,or_false] at hp
  subst hp
  simp
theorem sX_ok (h0:Rg r0) (h1:Rg r1) (hs:0 ≤ st0 ∧ st0 ≤ 3) (hw:w0 = 0 ∧ st0 ≠ 2 ∨ w0 = 2 ∧ st0 = 2 ∧ up = false) (h7:QOk (sX r0 r1 st0 w0 q ts up).t.ps q) (h8:TsOk 2 ts) (h9:∀ a ∈ ts,a.proc = 0 ∧ st0 = 2):StOk pS (sX r0 r1 st0 w0 q ts up):=by
 refine ⟨pS_ok,fun k hk => ?_⟩
 have two:∀ {P:Pr → Prop},P ⟨r0,0,st0,5,w0,0⟩ → P ⟨r1,0,1,5,0,0⟩ → ∀ p ∈ (sX r0 r1 st0 w0 q ts up).t.ps,P p:=fun a b p hp => by
  simp only [sX,List.mem_cons,List.not_mem_nil,or_false] at hp
  rcases hp with rfl | rfl
  ·exact a
  ·exact b
 have hc:k = 0 ∨ k = 1 ∨ k = 2 ∨ k = 3 ∨ k = 4 ∨ k = 5 ∨ k = 6 ∨ k = 7 ∨ k = 8 ∨ k = 9 ∨ k = 10 ∨ k = 11 ∨ k = 12 ∨ k = 13 ∨ k = 14 ∨ k = 15:=by omega
 rcases hc with rfl | rfl | rfl | rfl | rfl | rfl | rfl | rfl | rfl | rfl | rfl | rfl | rfl | rfl | rfl | rfl
 ·rfl
 ·exact ⟨⟨of_decide_eq_true rfl,of_decide_eq_true rfl⟩,of_decide_eq_true rfl,of_decide_eq_true rfl⟩
 ·exact ⟨rfl,rfl,rfl,rfl,rfl⟩
 ·exact two (h0.num hs (by omega)) (h1.num (by decide) (by decide))
 ·refine two ?_ (of_decide_eq_true rfl)
  show w0 ≠ 0 ↔ st0 = 2
  omega
 ·refine two ?_ (show ObjOk pS 0 0 by decide)
  show ObjOk pS w0 0
  rcases hw with ⟨rfl,_⟩ | ⟨rfl,_⟩ <;> decide
 ·exact h7
 ·exact h8
 ·refine ⟨fun a ha p hp => ?_,fun i hi p hp hw1 => ?_⟩
  ·obtain ⟨e1,e2⟩:=h9 a ha
   rw [e1] at hp
   have:p = ⟨r0,0,st0,5,w0,0⟩:=(Option.some.inj hp).symm
   rw [this]
   exact e2
  ·have hm:p ∈ (sX r0 r1 st0 w0 q ts up).t.ps:=List.mem_of_getElem? hp
   exact absurd hw1 (two (P:=fun p => p.wait ≠ 1) (by show w0 ≠ 1; omega) (show (0:Int) ≠ 1 by decide) p hm)
 ·show ∀ n ∈ [(0:Int)],CtOk n
  decide
 ·show ∀ x ∈ pS.ports.zip [(⟨[],0⟩:Po),⟨[],0⟩],holdOk x.1 x.2
  decide
 ·show ∀ x ∈ pS.ports.zip [(⟨[],0⟩:Po),⟨[],0⟩],ageOk x.1 x.2
  decide
 ·show ∀ x ∈ pS.pages.zip [(⟨7,false,List.replicate 64 0⟩:Pa)],x.1.r = x.2.r
  decide
 ·refine two ?_ (fun g => absurd g (of_decide_eq_true rfl))
  intro g _
  show nth? [up] 0 ≠ some true
  rcases hw with ⟨rfl,_⟩ | ⟨rfl,_,rfl⟩
  ·exact absurd g (of_decide_eq_true rfl)
  ·decide
 ·refine two ?_ (fun g => absurd g (of_decide_eq_true rfl))
  intro g
  rcases hw with ⟨rfl,_⟩ | ⟨rfl,_⟩ <;> exact absurd g (of_decide_eq_true rfl)
 ·refine two ?_ (fun g => absurd g (of_decide_eq_true rfl))
  intro g
  rcases hw with ⟨rfl,_⟩ | ⟨rfl,_⟩ <;> exact absurd g (of_decide_eq_true rfl)
theorem sX_can (h0:Rg r0) (h1:Rg r1) (hok:StOk pS (sX r0 r1 st0 w0 q ts up)) (hb:StB (sX r0 r1 st0 w0 q ts up)) {tk:Int} (htk:0 ≤ tk ∧ tk ≤ 10000):(st0 = 1 → Can (sX r0 r1 st0 w0 q ts up) 0 tk) ∧ Can (sX r0 r1 st0 w0 q ts up) 1 tk:=by
 have rg:∀ {r:List Int},Rg r → ∀ k,k < 16 → RegOk ((r[k]?).getD 0):=fun h k hk => by
  rw [List.getElem?_eq_getElem (by rw [h.len]; exact hk)]
  exact h.ok _ (List.getElem_mem _)
 refine ⟨fun e => ⟨hok.tab hb.wp,by show some st0 = some 1; rw [e],htk,fun k hk => ?_⟩,⟨hok.tab hb.wp,rfl,htk,fun k hk => ?_⟩⟩
 ·exact rg h0 k hk
 ·exact rg h1 k hk
theorem regX0 (k : Nat) : regAt (sX r0 r1 st0 w0 q ts up) 0 k = (r0[k]?).getD 0 := rfl
theorem regX1 (k : Nat) : regAt (sX r0 r1 st0 w0 q ts up) 1 k = (r1[k]?).getD 0 := rfl
theorem q01:QOk (sX r0 r1 1 0 [0,1] ts up).t.ps [0,1]:=⟨fun n hn => by
  simp only [List.mem_cons,List.not_mem_nil,or_false] at hn
  rcases hn with rfl | rfl <;> rfl,by decide,fun i hi _ => by
  have:i = 0 ∨ i = 1:=by have h2:i < 2:=hi; omega
  rcases this with rfl | rfl <;> decide⟩
theorem q10:QOk (sX r0 r1 1 0 [1,0] ts up).t.ps [1,0]:=⟨fun n hn => by
  simp only [List.mem_cons,List.not_mem_nil,or_false] at hn
  rcases hn with rfl | rfl <;> rfl,by decide,fun i hi _ => by
  have:i = 0 ∨ i = 1:=by have h2:i < 2:=hi; omega
  rcases this with rfl | rfl <;> decide⟩
theorem q1:QOk (sX r0 r1 2 2 [1] ts up).t.ps [1]:=⟨fun n hn => by
  rw [List.mem_singleton] at hn
  subst hn
  rfl,by decide,fun i hi hr => by
  have:i = 0 ∨ i = 1:=by have h2:i < 2:=hi; omega
  rcases this with rfl | rfl
  ·have:some (2:Int) = some 1:=hr
   cases this
  ·decide⟩
theorem wait_late {tk:Int} (h2:(r0[2]?).getD 0 = 0) (h1:(r0[1]?).getD 0 = 0):doAwait pS (sX r0 r1 st0 w0 q ts false) 0 tk = sX (r0.set 1 4294967294) r1 st0 w0 q ts false:=by
 unfold doAwait
 rw [regX0,regX0,h1,h2,if_pos (by decide),if_pos (by decide),if_neg (by show ¬ (some false = some true); decide)]
 unfold doWait
 rw [regX0,h2,if_pos rfl]
 rfl
theorem wait_wrong {tk:Int} (h2:¬ timeOk ((r0[2]?).getD 0)) (h1:(r0[1]?).getD 0 = 0):doAwait pS (sX r0 r1 st0 w0 q ts false) 0 tk = sX (r0.set 1 4294967295) r1 st0 w0 q ts false:=by
 unfold doAwait
 rw [regX0,regX0,h1,if_pos (by decide),if_neg h2]
 rfl
theorem wait_up {tk:Int} (h2:timeOk ((r0[2]?).getD 0)) (h1:(r0[1]?).getD 0 = 0):doAwait pS (sX r0 r1 st0 w0 q ts true) 0 tk = sX (r0.set 1 0) r1 st0 w0 q ts true:=by
 unfold doAwait
 rw [regX0,regX0,h1,if_pos (by decide),if_pos h2,if_pos (by show some true = some true; rfl)]
 rfl
theorem wait_for {tk : Int} (h2 : (r0[2]?).getD 0 ≠ 0) (ht : timeOk ((r0[2]?).getD 0)) (h1 : (r0[1]?).getD 0 = 0) : doAwait pS (sX r0 r1 1 0 [0, 1] [] false) 0 tk = sX r0 r1 2 2 [1] (if (r0[2]?).getD 0 = 4294967295 then [] else if 0 ≤ tk + (r0[2]?).getD 0 then [⟨0, tk + (r0[2]?).getD 0⟩] else []) false := by
  unfold doAwait
  rw [regX0, regX0, h1, if_pos (by decide), if_pos ht, if_neg (by show ¬ (some false = some true); decide)]
  unfold doWait
  rw [regX0, if_neg h2]
  by_cases h3 : (r0[2]?).getD 0 = 4294967295
  · rw [if_pos h3, if_pos h3]
    rfl
  · rw [if_neg h3, if_neg h3]
    by_cases h4 : 0 ≤ tk + (r0[2]?).getD 0
    · rw [if_pos h4]
      have : Tab.block (sX r0 r1 1 0 [0, 1] [] false).t 0 2 0 (tk + (r0[2]?).getD 0) = ⟨[⟨r0, 0, 2, 5, 2, 0⟩, ⟨r1, 0, 1, 5, 0, 0⟩], [1], [⟨0, tk + (r0[2]?).getD 0⟩]⟩ := by
        unfold Tab.block
        rw [if_pos h4]
        rfl
      rw [this]
      rfl
    · rw [if_neg h4]
      have : Tab.block (sX r0 r1 1 0 [0, 1] [] false).t 0 2 0 (tk + (r0[2]?).getD 0) = ⟨[⟨r0, 0, 2, 5, 2, 0⟩, ⟨r1, 0, 1, 5, 0, 0⟩], [1], []⟩ := by
        unfold Tab.block
        rw [if_neg h4]
        rfl
      rw [this]
      rfl
theorem set_for (h1:(r1[1]?).getD 0 = 0) (ht:ts = [] ∨ ∃ d,ts = [⟨0,d⟩]):doSet pS (sX r0 r1 2 2 [1] ts false) 1 = sX (r0.set 1 0) (r1.set 1 0) 1 0 [1,0] [] true:=by
 unfold doSet
 rw [regX1,h1,if_pos (by decide)]
 rcases ht with rfl | ⟨d,rfl⟩ <;> rfl
end Sy
end Go.Fv.Tr
namespace Go.Fv.Tr
open Go Go.Fv Go.Proofs
set_option maxRecDepth 20000
noncomputable def ferry_ferrylaw12_SysWaits (G : GV) (call : CV) (x0 : V) (x1 : V) : M R :=
  (M.ret (V.bool false)).bind fun aA =>
  (callV (cfg G) call 8 []).bind fun aB =>
  (M.lift (unV .not aB)).bind fun aC =>
  (condV aC
   ((M.ret (V.bool false)).bind fun aD =>
  M.ret (Ex.ret, [aD]))
   ((M.ret x1).bind fun aE =>
  (M.lift (convI .u64 aE)).bind fun aF =>
  (M.lift (arithV .rem aF (V.int .u64 10001))).bind fun aG =>
  (M.lift (convI .i64 aG)).bind fun aH =>
  (M.ret aH).bind fun aI =>
  (callV (cfg G) call 11 []).bind fun aJ =>
  (M.ret aJ).bind fun aK =>
  (M.lift (extractV aK 0)).bind fun aL =>
  (M.lift (extractV aK 1)).bind fun aM =>
  (newV (.agg [(V.int .i64 0), (V.bool false), V.nils, V.nils, V.nils, (V.int .i64 0), V.nils])).bind fun aN =>
  (newV (.agg [(V.int .i64 0), (V.int .i64 0), (V.int .i64 0), V.nils, V.nils, V.nils, V.nils, V.nils, V.nils, V.nils])).bind fun aO =>
  (storeN 7 aN aL).bind fun _ =>
  (storeN 10 aO aM).bind fun _ =>
  (M.lift (padd 3 aO)).bind fun aP =>
  (load1 aP).bind fun aQ =>
  (M.ret x0).bind fun aR =>
  (M.lift (idxV 21 aQ (V.int .i64 0))).bind fun aS =>
  (M.lift (padd 0 aS)).bind fun aT =>
  (M.lift (aidxV 16 1 aT (V.int .i64 2))).bind fun aU =>
  (storeN 1 aU aR).bind fun _ =>
  (loadN 7 aN).bind fun aV =>
  (loadN 10 aO).bind fun aW =>
  (M.ret aI).bind fun aX =>
  (callV (cfg G) call 10 [aV, aW, (V.int .i64 0), (V.int .i64 9), aX]).bind fun aY =>
  (M.ret aY).bind fun aZ =>
  (M.lift (extractV aZ 0)).bind fun bA =>
  (M.lift (extractV aZ 1)).bind fun bB =>
  (newV (.agg [(V.int .i64 0), (V.int .i64 0), (V.int .i64 0), V.nils, V.nils, V.nils, V.nils, V.nils, V.nils, V.nils, V.nils, (V.int .i64 0)])).bind fun bC =>
  (storeN 12 bC bA).bind fun _ =>
  (M.ret bB).bind fun bD =>
  (M.ret bD).bind fun bE =>
  (M.lift ((eqV .iface true bE V.nili).bind fun b => some (.bool !b))).bind fun bF =>
  (M.ret bF).bind fun bG =>
  (guardV bG false (M.lift (padd 11 bC))).bind fun bH =>
  (guardV bG false (load1 bH)).bind fun bI =>
  (guardV bG false (M.lift ((eqV (.sc .int) true bI (V.int .i64 0)).bind fun b => some (.bool !b)))).bind fun bJ =>
  (M.lift (pickV bG (V.bool true) bJ)).bind fun bK =>
  (M.ret bK).bind fun bL =>
  (guardV bL false (M.lift (padd 0 bC))).bind fun bM =>
  (guardV bL false (M.lift (padd 3 bM))).bind fun bN =>
  (guardV bL false (load1 bN)).bind fun bO =>
  (guardV bL false (M.lift (lenV bO))).bind fun bP =>
  (guardV bL false (M.lift ((eqV (.sc .int) true bP (V.int .i64 2)).bind fun b => some (.bool !b)))).bind fun bQ =>
  (M.lift (pickV bL (V.bool true) bQ)).bind fun bR =>
  (condV bR
   ((M.ret (V.bool false)).bind fun bS =>
  M.ret (Ex.ret, [bS]))
   ((M.lift (padd 0 bC)).bind fun bT =>
  (loadN 10 bT).bind fun bU =>
  (newV (.agg [(V.int .i64 0), (V.int .i64 0), (V.int .i64 0), V.nils, V.nils, V.nils, V.nils, V.nils, V.nils, V.nils])).bind fun bV =>
  (storeN 10 bV bU).bind fun _ =>
  (M.lift (padd 3 bV)).bind fun bW =>
  (load1 bW).bind fun bX =>
  (M.lift (idxV 21 bX (V.int .i64 0))).bind fun bY =>
  (loadN 21 bY).bind fun bZ =>
  (newV (.agg [(V.int .u32 0), (V.int .u32 0), (V.int .u32 0), (V.int .u32 0), (V.int .u32 0), (V.int .u32 0), (V.int .u32 0), (V.int .u32 0), (V.int .u32 0), (V.int .u32 0), (V.int .u32 0), (V.int .u32 0), (V.int .u32 0), (V.int .u32 0), (V.int .u32 0), (V.int .u32 0), (V.int .u32 0), (V.int .i64 0), (V.int .i64 0), (V.int .i64 0), (V.int .i64 0)])).bind fun cA =>
  (storeN 21 cA bZ).bind fun _ =>
  (M.ret x0).bind fun cB =>
  (M.lift ((eqV (.sc .int) true cB (V.int .u32 0)).bind fun b => some (.bool b))).bind fun cC =>
  (M.ret cC).bind fun cD =>
  (condV cD
   ((M.lift (padd 0 cA)).bind fun cE =>
  (M.lift (aidxV 16 1 cE (V.int .i64 1))).bind fun cF =>
  (load1 cF).bind fun cG =>
  (M.lift ((eqV (.sc .int) true cG (V.int .u32 4294967294)).bind fun b => some (.bool b))).bind fun cH =>
  (M.ret cH).bind fun cI =>
  (guardV cI true (M.lift (padd 17 cA))).bind fun cJ =>
  (guardV cI true (load1 cJ)).bind fun cK =>
  (guardV cI true (M.lift ((eqV (.sc .int) true cK (V.int .i64 1)).bind fun b => some (.bool b)))).bind fun cL =>
  (M.lift (pickV cI cL (V.bool false))).bind fun cM =>
  (M.ret cM).bind fun cN =>
  (guardV cN true (M.lift (padd 4 bV))).bind fun cO =>
  (guardV cN true (load1 cO)).bind fun cP =>
  (guardV cN true (M.lift (lenV cP))).bind fun cQ =>
  (guardV cN true (M.lift ((eqV (.sc .int) true cQ (V.int .i64 2)).bind fun b => some (.bool b)))).bind fun cR =>
  (M.lift (pickV cN cR (V.bool false))).bind fun cS =>
  (M.ret cS).bind fun cT =>
  (guardV cT true (M.lift (padd 5 bV))).bind fun cU =>
  (guardV cT true (load1 cU)).bind fun cV =>
  (guardV cT true (M.lift (lenV cV))).bind fun cW =>
  (guardV cT true (M.lift ((eqV (.sc .int) true cW (V.int .i64 0)).bind fun b => some (.bool b)))).bind fun cX =>
  (M.lift (pickV cT cX (V.bool false))).bind fun cY =>
  (M.ret cY).bind fun cZ =>
  M.ret (Ex.ret, [cZ]))
   ((M.ret x0).bind fun dA =>
  (M.lift (arithV .gtr dA (V.int .u32 1000000))).bind fun dB =>
  (M.ret dB).bind fun dC =>
  (guardV dC true (M.ret x0)).bind fun dD =>
  (guardV dC true (M.lift ((eqV (.sc .int) true dD (V.int .u32 4294967295)).bind fun b => some (.bool !b)))).bind fun dE =>
  (M.lift (pickV dC dE (V.bool false))).bind fun dF =>
  (M.ret dF).bind fun dG =>
  (condV dG
   ((M.lift (padd 0 cA)).bind fun dH =>
  (M.lift (aidxV 16 1 dH (V.int .i64 1))).bind fun dI =>
  (load1 dI).bind fun dJ =>
  (M.lift ((eqV (.sc .int) true dJ (V.int .u32 4294967295)).bind fun b => some (.bool b))).bind fun dK =>
  (M.ret dK).bind fun dL =>
  (guardV dL true (M.lift (padd 17 cA))).bind fun dM =>
  (guardV dL true (load1 dM)).bind fun dN =>
  (guardV dL true (M.lift ((eqV (.sc .int) true dN (V.int .i64 1)).bind fun b => some (.bool b)))).bind fun dO =>
  (M.lift (pickV dL dO (V.bool false))).bind fun dP =>
  (M.ret dP).bind fun dQ =>
  (guardV dQ true (M.lift (padd 4 bV))).bind fun dR =>
  (guardV dQ true (load1 dR)).bind fun dS =>
  (guardV dQ true (M.lift (lenV dS))).bind fun dT =>
  (guardV dQ true (M.lift ((eqV (.sc .int) true dT (V.int .i64 2)).bind fun b => some (.bool b)))).bind fun dU =>
  (M.lift (pickV dQ dU (V.bool false))).bind fun dV =>
  (M.ret dV).bind fun dW =>
  (guardV dW true (M.lift (padd 5 bV))).bind fun dX =>
  (guardV dW true (load1 dX)).bind fun dY =>
  (guardV dW true (M.lift (lenV dY))).bind fun dZ =>
  (guardV dW true (M.lift ((eqV (.sc .int) true dZ (V.int .i64 0)).bind fun b => some (.bool b)))).bind fun eA =>
  (M.lift (pickV dW eA (V.bool false))).bind fun eB =>
  (M.ret eB).bind fun eC =>
  M.ret (Ex.ret, [eC]))
   ((M.lift (padd 17 cA)).bind fun eD =>
  (load1 eD).bind fun eE =>
  (M.lift ((eqV (.sc .int) true eE (V.int .i64 2)).bind fun b => some (.bool !b))).bind fun eF =>
  (M.ret eF).bind fun eG =>
  (guardV eG false (M.lift (padd 19 cA))).bind fun eH =>
  (guardV eG false (load1 eH)).bind fun eI =>
  (guardV eG false (M.lift ((eqV (.sc .int) true eI (V.int .i64 2)).bind fun b => some (.bool !b)))).bind fun eJ =>
  (M.lift (pickV eG (V.bool true) eJ)).bind fun eK =>
  (M.ret eK).bind fun eL =>
  (guardV eL false (M.lift (padd 20 cA))).bind fun eM =>
  (guardV eL false (load1 eM)).bind fun eN =>
  (guardV eL false (M.lift ((eqV (.sc .int) true eN (V.int .i64 0)).bind fun b => some (.bool !b)))).bind fun eO =>
  (M.lift (pickV eL (V.bool true) eO)).bind fun eP =>
  (M.ret eP).bind fun eQ =>
  (guardV eQ false (M.lift (padd 4 bV))).bind fun eR =>
  (guardV eQ false (load1 eR)).bind fun eS =>
  (guardV eQ false (M.lift (lenV eS))).bind fun eT =>
  (guardV eQ false (M.lift ((eqV (.sc .int) true eT (V.int .i64 1)).bind fun b => some (.bool !b)))).bind fun eU =>
  (M.lift (pickV eQ (V.bool true) eU)).bind fun eV =>
  (M.ret eV).bind fun eW =>
  (guardV eW false (M.lift (padd 4 bV))).bind fun eX =>
  (guardV eW false (load1 eX)).bind fun eY =>
  (guardV eW false (M.lift (idxV 1 eY (V.int .i64 0)))).bind fun eZ =>
  (guardV eW false (load1 eZ)).bind fun fA =>
  (guardV eW false (M.lift ((eqV (.sc .int) true fA (V.int .i64 1)).bind fun b => some (.bool !b)))).bind fun fB =>
  (M.lift (pickV eW (V.bool true) fB)).bind fun fC =>
  (condV fC
   ((M.ret (V.bool false)).bind fun fD =>
  M.ret (Ex.ret, [fD]))
   ((M.ret x0).bind fun fE =>
  (M.lift ((eqV (.sc .int) true fE (V.int .u32 4294967295)).bind fun b => some (.bool b))).bind fun fF =>
  (M.ret fF).bind fun fG =>
  (guardV fG true (M.lift (padd 5 bV))).bind fun fH =>
  (guardV fG true (load1 fH)).bind fun fI =>
  (guardV fG true (M.lift (lenV fI))).bind fun fJ =>
  (guardV fG true (M.lift ((eqV (.sc .int) true fJ (V.int .i64 0)).bind fun b => some (.bool !b)))).bind fun fK =>
  (M.lift (pickV fG fK (V.bool false))).bind fun fL =>
  (M.ret fL).bind fun fM =>
  (guardV fM false (M.ret x0)).bind fun fN =>
  (guardV fM false (M.lift ((eqV (.sc .int) true fN (V.int .u32 4294967295)).bind fun b => some (.bool !b)))).bind fun fO =>
  (guardV fM false (M.ret fO)).bind fun fP =>
  (guardV fP true (M.lift (padd 5 bV))).bind fun fQ =>
  (guardV fP true (load1 fQ)).bind fun fR =>
  (guardV fP true (M.lift (lenV fR))).bind fun fS =>
  (guardV fP true (M.lift ((eqV (.sc .int) true fS (V.int .i64 1)).bind fun b => some (.bool !b)))).bind fun fT =>
  (guardV fP true (M.ret fT)).bind fun fU =>
  (guardV fU false (M.lift (padd 5 bV))).bind fun fV =>
  (guardV fU false (load1 fV)).bind fun fW =>
  (guardV fU false (M.lift (idxV 2 fW (V.int .i64 0)))).bind fun fX =>
  (guardV fU false (loadN 2 fX)).bind fun fY =>
  (guardV fU false (M.ret aI)).bind fun fZ =>
  (guardV fU false (M.ret x0)).bind fun gA =>
  (guardV fU false (M.lift (convI .i64 gA))).bind fun gB =>
  (guardV fU false (M.lift (arithV .add fZ gB))).bind fun gC =>
  (guardV fU false (M.lift (buildV [(V.int .i64 0), (V.int .i64 0)] [(0, 1, (V.int .i64 0)), (1, 1, gC)]))).bind fun gD =>
  (guardV fU false (M.lift ((eqV (.agg [.int, .int]) false fY gD).bind fun b => some (.bool !b)))).bind fun gE =>
  (guardV fP true (M.lift (pickV fU (V.bool true) gE))).bind fun gF =>
  (guardV fM false (M.lift (pickV fP gF (V.bool false)))).bind fun gG =>
  (M.lift (pickV fM (V.bool true) gG)).bind fun gH =>
  (condV gH
   ((M.ret (V.bool false)).bind fun gI =>
  M.ret (Ex.ret, [gI]))
   ((M.lift (padd 3 bV)).bind fun gJ =>
  (load1 gJ).bind fun gK =>
  (M.lift (idxV 21 gK (V.int .i64 1))).bind fun gL =>
  (M.lift (padd 0 gL)).bind fun gM =>
  (M.lift (aidxV 16 1 gM (V.int .i64 1))).bind fun gN =>
  (storeN 1 gN (V.int .u32 0)).bind fun _ =>
  (loadN 7 aN).bind fun gO =>
  (loadN 10 bV).bind fun gP =>
  (M.ret aI).bind fun gQ =>
  (callV (cfg G) call 10 [gO, gP, (V.int .i64 1), (V.int .i64 7), gQ]).bind fun gR =>
  (M.ret gR).bind fun gS =>
  (M.lift (extractV gS 0)).bind fun gT =>
  (M.lift (extractV gS 1)).bind fun gU =>
  (storeN 12 bC gT).bind fun _ =>
  (M.ret gU).bind fun gV =>
  (M.ret gV).bind fun gW =>
  (M.lift ((eqV .iface true gW V.nili).bind fun b => some (.bool !b))).bind fun gX =>
  (M.ret gX).bind fun gY =>
  (guardV gY false (M.lift (padd 11 bC))).bind fun gZ =>
  (guardV gY false (load1 gZ)).bind fun hA =>
  (guardV gY false (M.lift ((eqV (.sc .int) true hA (V.int .i64 0)).bind fun b => some (.bool !b)))).bind fun hB =>
  (M.lift (pickV gY (V.bool true) hB)).bind fun hC =>
  (M.ret hC).bind fun hD =>
  (guardV hD false (M.lift (padd 0 bC))).bind fun hE =>
  (guardV hD false (M.lift (padd 3 hE))).bind fun hF =>
  (guardV hD false (load1 hF)).bind fun hG =>
  (guardV hD false (M.lift (lenV hG))).bind fun hH =>
  (guardV hD false (M.lift ((eqV (.sc .int) true hH (V.int .i64 2)).bind fun b => some (.bool !b)))).bind fun hI =>
  (M.lift (pickV hD (V.bool true) hI)).bind fun hJ =>
  (M.ret hJ).bind fun hK =>
  (guardV hK false (M.lift (padd 0 bC))).bind fun hL =>
  (guardV hK false (M.lift (padd 6 hL))).bind fun hM =>
  (guardV hK false (load1 hM)).bind fun hN =>
  (guardV hK false (M.lift (lenV hN))).bind fun hO =>
  (guardV hK false (M.lift ((eqV (.sc .int) true hO (V.int .i64 1)).bind fun b => some (.bool !b)))).bind fun hP =>
  (M.lift (pickV hK (V.bool true) hP)).bind fun hQ =>
  (condV hQ
   ((M.ret (V.bool false)).bind fun hR =>
  M.ret (Ex.ret, [hR]))
   ((M.lift (padd 0 bC)).bind fun hS =>
  (loadN 10 hS).bind fun hT =>
  (newV (.agg [(V.int .i64 0), (V.int .i64 0), (V.int .i64 0), V.nils, V.nils, V.nils, V.nils, V.nils, V.nils, V.nils])).bind fun hU =>
  (storeN 10 hU hT).bind fun _ =>
  (M.lift (padd 6 hU)).bind fun hV =>
  (load1 hV).bind fun hW =>
  (M.lift (idxV 1 hW (V.int .i64 0))).bind fun hX =>
  (load1 hX).bind fun hY =>
  (M.lift (unV .not hY)).bind fun hZ =>
  (M.ret hZ).bind fun iA =>
  (guardV iA false (M.lift (padd 5 hU))).bind fun iB =>
  (guardV iA false (load1 iB)).bind fun iC =>
  (guardV iA false (M.lift (lenV iC))).bind fun iD =>
  (guardV iA false (M.lift ((eqV (.sc .int) true iD (V.int .i64 0)).bind fun b => some (.bool !b)))).bind fun iE =>
  (M.lift (pickV iA (V.bool true) iE)).bind fun iF =>
  (M.ret iF).bind fun iG =>
  (guardV iG false (M.lift (padd 4 hU))).bind fun iH =>
  (guardV iG false (load1 iH)).bind fun iI =>
  (guardV iG false (M.lift (lenV iI))).bind fun iJ =>
  (guardV iG false (M.lift ((eqV (.sc .int) true iJ (V.int .i64 2)).bind fun b => some (.bool !b)))).bind fun iK =>
  (M.lift (pickV iG (V.bool true) iK)).bind fun iL =>
  (M.ret iL).bind fun iM =>
  (guardV iM false (M.lift (padd 4 hU))).bind fun iN =>
  (guardV iM false (load1 iN)).bind fun iO =>
  (guardV iM false (M.lift (idxV 1 iO (V.int .i64 1)))).bind fun iP =>
  (guardV iM false (load1 iP)).bind fun iQ =>
  (guardV iM false (M.lift ((eqV (.sc .int) true iQ (V.int .i64 0)).bind fun b => some (.bool !b)))).bind fun iR =>
  (M.lift (pickV iM (V.bool true) iR)).bind fun iS =>
  (M.ret iS).bind fun iT =>
  (guardV iT false (M.lift (padd 3 hU))).bind fun iU =>
  (guardV iT false (load1 iU)).bind fun iV =>
  (guardV iT false (M.lift (idxV 21 iV (V.int .i64 0)))).bind fun iW =>
  (guardV iT false (M.lift (padd 17 iW))).bind fun iX =>
  (guardV iT false (load1 iX)).bind fun iY =>
  (guardV iT false (M.lift ((eqV (.sc .int) true iY (V.int .i64 1)).bind fun b => some (.bool !b)))).bind fun iZ =>
  (M.lift (pickV iT (V.bool true) iZ)).bind fun jA =>
  (M.ret jA).bind fun jB =>
  (guardV jB false (M.lift (padd 3 hU))).bind fun jC =>
  (guardV jB false (load1 jC)).bind fun jD =>
  (guardV jB false (M.lift (idxV 21 jD (V.int .i64 0)))).bind fun jE =>
  (guardV jB false (M.lift (padd 0 jE))).bind fun jF =>
  (guardV jB false (M.lift (aidxV 16 1 jF (V.int .i64 1)))).bind fun jG =>
  (guardV jB false (load1 jG)).bind fun jH =>
  (guardV jB false (M.lift ((eqV (.sc .int) true jH (V.int .u32 0)).bind fun b => some (.bool !b)))).bind fun jI =>
  (M.lift (pickV jB (V.bool true) jI)).bind fun jJ =>
  (M.ret jJ).bind fun jK =>
  (guardV jK false (M.lift (padd 3 hU))).bind fun jL =>
  (guardV jK false (load1 jL)).bind fun jM =>
  (guardV jK false (M.lift (idxV 21 jM (V.int .i64 0)))).bind fun jN =>
  (guardV jK false (M.lift (padd 19 jN))).bind fun jO =>
  (guardV jK false (load1 jO)).bind fun jP =>
  (guardV jK false (M.lift ((eqV (.sc .int) true jP (V.int .i64 0)).bind fun b => some (.bool !b)))).bind fun jQ =>
  (M.lift (pickV jK (V.bool true) jQ)).bind fun jR =>
  (condV jR
   ((M.ret (V.bool false)).bind fun jS =>
  M.ret (Ex.ret, [jS]))
   (((M.lift (padd 3 hU)).bind fun jT =>
  (load1 jT).bind fun jU =>
  (M.lift (padd 3 hU)).bind fun jV =>
  (load1 jV).bind fun jW =>
  (M.lift (idxV 21 jU (V.int .i64 0))).bind fun jX =>
  (M.lift (padd 0 jX)).bind fun jY =>
  (M.lift (aidxV 16 1 jY (V.int .i64 1))).bind fun jZ =>
  guardM (apartV jV jZ && true) (
  (storeN 1 jZ (V.int .u32 0)).bind fun _ =>
  (M.lift (idxV 21 jW (V.int .i64 0))).bind fun kA =>
  (M.lift (padd 0 kA)).bind fun kB =>
  (M.lift (aidxV 16 1 kB (V.int .i64 2))).bind fun kC =>
  (storeN 1 kC (V.int .u32 0)).bind fun _ =>
  (loadN 7 aN).bind fun kD =>
  (loadN 10 hU).bind fun kE =>
  (M.ret aI).bind fun kF =>
  (callV (cfg G) call 10 [kD, kE, (V.int .i64 0), (V.int .i64 9), kF]).bind fun kG =>
  (M.ret kG).bind fun kH =>
  (M.lift (extractV kH 0)).bind fun kI =>
  (M.lift (extractV kH 1)).bind fun kJ =>
  (storeN 12 bC kI).bind fun _ =>
  (M.ret kJ).bind fun kK =>
  (M.ret kK).bind fun kL =>
  (M.lift ((eqV .iface true kL V.nili).bind fun b => some (.bool b))).bind fun kM =>
  (M.ret kM).bind fun kN =>
  (guardV kN true (M.lift (padd 0 bC))).bind fun kO =>
  (guardV kN true (M.lift (padd 3 kO))).bind fun kP =>
  (guardV kN true (load1 kP)).bind fun kQ =>
  (guardV kN true (M.lift (lenV kQ))).bind fun kR =>
  (guardV kN true (M.lift ((eqV (.sc .int) true kR (V.int .i64 2)).bind fun b => some (.bool b)))).bind fun kS =>
  (M.lift (pickV kN kS (V.bool false))).bind fun kT =>
  (M.ret kT).bind fun kU =>
  (guardV kU true (M.lift (padd 0 bC))).bind fun kV =>
  (guardV kU true (M.lift (padd 3 kV))).bind fun kW =>
  (guardV kU true (load1 kW)).bind fun kX =>
  (guardV kU true (M.lift (idxV 21 kX (V.int .i64 0)))).bind fun kY =>
  (guardV kU true (M.lift (padd 0 kY))).bind fun kZ =>
  (guardV kU true (M.lift (aidxV 16 1 kZ (V.int .i64 1)))).bind fun lA =>
  (guardV kU true (load1 lA)).bind fun lB =>
  (guardV kU true (M.lift ((eqV (.sc .int) true lB (V.int .u32 0)).bind fun b => some (.bool b)))).bind fun lC =>
  (M.lift (pickV kU lC (V.bool false))).bind fun lD =>
  (M.ret lD).bind fun lE =>
  (guardV lE true (M.lift (padd 0 bC))).bind fun lF =>
  (guardV lE true (M.lift (padd 3 lF))).bind fun lG =>
  (guardV lE true (load1 lG)).bind fun lH =>
  (guardV lE true (M.lift (idxV 21 lH (V.int .i64 0)))).bind fun lI =>
  (guardV lE true (M.lift (padd 17 lI))).bind fun lJ =>
  (guardV lE true (load1 lJ)).bind fun lK =>
  (guardV lE true (M.lift ((eqV (.sc .int) true lK (V.int .i64 1)).bind fun b => some (.bool b)))).bind fun lL =>
  (M.lift (pickV lE lL (V.bool false))).bind fun lM =>
  (M.ret lM).bind fun lN =>
  (guardV lN true (M.lift (padd 0 bC))).bind fun lO =>
  (guardV lN true (M.lift (padd 4 lO))).bind fun lP =>
  (guardV lN true (load1 lP)).bind fun lQ =>
  (guardV lN true (M.lift (lenV lQ))).bind fun lR =>
  (guardV lN true (M.lift ((eqV (.sc .int) true lR (V.int .i64 2)).bind fun b => some (.bool b)))).bind fun lS =>
  (M.lift (pickV lN lS (V.bool false))).bind fun lT =>
  (M.ret lT).bind fun lU =>
  M.ret (Ex.ret, [lU])))))))))))))))))))
theorem ferry_ferrylaw12_SysWaits_eq (G:GV) (n:Nat) (x0:V) (x1:V):sem (cfg G) (n + 1) 5 [x0,x1] = outV (ferry_ferrylaw12_SysWaits G (sem (cfg G) n) x0 x1) :=
 (fnV_at (C:=cfg G) (n:=n) (f:=5) (fn:=Tryz.f5) (c:=Tryz.f5.body.getD .skip) (by kernel_rfl) (by kernel_rfl) (by kernel_rfl) [x0,x1]).trans (by kernel_rfl)
end Go.Fv.Tr
