/-
  A crew with one semaphore: plain facts. By an AI agent; no person has read it.
-/
import Derived.Test.YtekncgjkocgioaaGreatDoorFvP41
set_option linter.unusedVariables false
set_option linter.unusedSimpArgs false
set_option linter.unusedSectionVars false
/-! A crew with one semaphore: plain facts. -/
namespace Go.Fv.Tr
open Go Go.Fv Go.Fv.Pl Go.Proofs
variable {G:GV}
namespace Sy
def crP (n:Nat) (c:Int):Pn:=⟨0,false,[⟨7,⟨#[]⟩⟩],(List.range n).map fun i => ⟨0,((i % 3:Nat):Int),true⟩,[],0,[c]⟩
def crS (t:Tab) (k:Int):St:=⟨0,0,0,t,[],[k],[],[⟨7,false,List.replicate 64 0⟩]⟩
def crT (n:Nat):Tab:=⟨(List.range n).map fun i => ⟨Z16,0,1,((i % 3:Nat):Int),0,0⟩,(List.range n).map fun i => ((i:Nat):Int),[]⟩
theorem crP_ok {n:Nat} {c:Int} (hn:1 ≤ n ∧ n ≤ 8) (hc:CtOk c):PnOk (crP n c):=by
 refine ⟨⟨of_decide_eq_true rfl,of_decide_eq_true rfl⟩,⟨⟨of_decide_eq_true rfl,of_decide_eq_true rfl⟩,fun q hq => ?_⟩,⟨?_,fun q hq => ?_⟩,⟨of_decide_eq_true rfl,fun q hq => by cases hq⟩,⟨of_decide_eq_true rfl,of_decide_eq_true rfl⟩,⟨of_decide_eq_true rfl,fun m hm => ?_⟩,?_⟩
 ·rw [show (crP n c).pages = [⟨7,⟨#[]⟩⟩] from rfl,List.mem_singleton] at hq
  subst hq
  decide
 ·simp [crP]; omega
 ·obtain ⟨i,_,rfl⟩:=List.mem_map.1 hq
  refine ⟨⟨of_decide_eq_true rfl,(of_decide_eq_true rfl:(0:Int) < 64 * ((1:Nat):Int)),of_decide_eq_true rfl⟩,?_,?_⟩
  ·show (0:Int) ≤ ((i % 3:Nat):Int)
   omega
  ·show ((i % 3:Nat):Int) ≤ 255
   omega
 ·rw [show (crP n c).sems = [c] from rfl,List.mem_singleton] at hm
  subst hm
  exact hc
 ·unfold boundP
  simp [crP]
  omega
structure Cr (n:Nat) (t:Tab) (k:Int):Prop where
 ok:TabOk t
 len:t.ps.length = n
 wp:∀ q ∈ t.ps,Wp q
 rg:RgOk t.ps
 st:∀ q ∈ t.ps,q.state = 1 ∨ waits 3 0 q
 kk:0 ≤ k ∧ k ≤ 255
 no:0 < k → ∀ q ∈ t.ps,q.state = 1
variable {n:Nat} {t:Tab} {k c:Int} {p q:Int}
theorem Cr.prok (h:Cr n t k) {q:Pr} (hq:q ∈ t.ps):PrOk q:=by
 obtain ⟨j,hj⟩:=List.mem_iff_getElem?.1 hq
 exact (h.ok.ps j q hj).1
theorem Cr.stOk (h:Cr n t k) (hn:1 ≤ n ∧ n ≤ 8) (hc:CtOk c):StOk (crP n c) (crS t k):=by
 refine ⟨crP_ok hn hc,fun j hj => ?_⟩
 have w23:∀ q ∈ t.ps,q.wait = 0 ∧ q.obj = 0 ∨ q.wait = 3 ∧ q.obj = 0 ∧ q.state = 2:=fun q hq => by
  obtain ⟨g1,g2,g3,g4,g5,g6,g7⟩:=h.prok hq
  rcases h.st q hq with e | ⟨e1,e2,e3⟩
  ·have:q.wait = 0:=by
    rcases Int.lt_or_gt_of_ne (show q.state ≠ 2 by omega) with _ | _ <;> exact Classical.byContradiction fun g => by have:=g5.1 g; omega
   exact .inl ⟨this,by rcases g7 with g7 | g7 <;> omega⟩
  ·exact .inr ⟨e2,e3,e1⟩
 have hcs:j = 0 ∨ j = 1 ∨ j = 2 ∨ j = 3 ∨ j = 4 ∨ j = 5 ∨ j = 6 ∨ j = 7 ∨ j = 8 ∨ j = 9 ∨ j = 10 ∨ j = 11 ∨ j = 12 ∨ j = 13 ∨ j = 14 ∨ j = 15:=by omega
 rcases hcs with rfl | rfl | rfl | rfl | rfl | rfl | rfl | rfl | rfl | rfl | rfl | rfl | rfl | rfl | rfl | rfl
 ·rfl
 ·exact ⟨⟨of_decide_eq_true rfl,of_decide_eq_true rfl⟩,of_decide_eq_true rfl,of_decide_eq_true rfl⟩
 ·refine ⟨?_,rfl,rfl,rfl,rfl⟩
  show t.ps.length = ((List.range n).map _).length
  rw [List.length_map,List.length_range,h.len]
 ·intro q hq
  obtain ⟨g1,g2,g3,g4,-⟩:=h.prok hq
  exact ⟨by unfold reg0; rw [g1]; rfl,g2,g3,g4⟩
 ·intro q hq
  exact (h.prok hq).2.2.2.2.1
 ·intro q hq
  show ObjOk (crP n c) q.wait q.obj
  rcases w23 q hq with ⟨e1,e2⟩ | ⟨e1,e2,_⟩
  ·rw [e1,e2]
   exact rfl
  ·rw [e1,e2]
   exact ⟨by decide,show (0:Int) < ((1:Nat):Int) by decide⟩
 ·exact h.ok.q
 ·exact h.ok.ts
 ·refine ⟨fun a ha q hq => ?_,fun i hi q hq hw => ?_⟩
  ·exact (h.ok.at hq).2.1 (List.mem_map.2 ⟨a,ha,rfl⟩)
  ·have:=w23 q (List.mem_of_getElem? hq)
   omega
 ·show ∀ n ∈ [k],CtOk n
  intro n hn
  rw [List.mem_singleton] at hn
  subst hn
  exact h.kk
 ·show ∀ x ∈ ([]:List Tp).zip ([]:List Po),holdOk x.1 x.2
  decide
 ·show ∀ x ∈ ([]:List Tp).zip ([]:List Po),ageOk x.1 x.2
  decide
 ·show ∀ x ∈ [(⟨7,⟨#[]⟩⟩:Gp)].zip [(⟨7,false,List.replicate 64 0⟩:Pa)],x.1.r = x.2.r
  decide
 ·intro q hq g
  have:=w23 q hq
  omega
 ·intro q hq g _ m hm
  have hw:=w23 q hq
  have ho:q.obj = 0:=by omega
  rw [ho] at hm
  have hm:some k = some m:=hm
  injection hm with e
  subst e
  exact Classical.byContradiction fun g0 => by
   have:=h.no (by have:=h.kk; omega) q hq
   omega
 ·intro q hq g
  have:=w23 q hq
  omega
theorem Cr.stB (h:Cr n t k):StB (crS t k):=by
 have hb:=small_of h.ok
 refine ⟨h.wp,⟨hb.1,hb.2,hb.3⟩,of_decide_eq_true rfl,of_decide_eq_true rfl,of_decide_eq_true rfl,of_decide_eq_true rfl,fun p hp => (by cases hp),fun p hp => ?_⟩
 rw [show (crS t k).pages = [⟨7,false,List.replicate 64 0⟩] from rfl,List.mem_singleton] at hp
 subst hp
 exact List.length_replicate
theorem Cr.can (h:Cr n t k) (hq:isReady t.ps q):Can (crS t k) q 5:=⟨h.ok,hq,by decide,fun j _ => RgOk.reg (s:=crS t k) h.rg j⟩
def wn (ps:List Pr):Nat:=ps.countP fun q => decide (q.state = 2)
theorem wn_modify {f : Pr → Pr} : ∀ {ps : List Pr} {i : Nat} {p : Pr}, ps[i]? = some p → wn (ps.modify i f) + (if p.state = 2 then 1 else 0) = wn ps + (if (f p).state = 2 then 1 else 0)
  | [],_,_,h => by simp at h
  | a :: ps, 0, p, h => by
    simp only [List.getElem?_cons_zero,Option.some.injEq] at h
    subst h
    simp only [List.modify_zero_cons,wn,List.countP_cons,decide_eq_true_eq]
    omega
  | a :: ps, i + 1, p, h => by
    simp only [List.getElem?_cons_succ] at h
    have:=wn_modify (f:=f) h
    simp only [wn] at this
    simp only [List.modify_succ_cons,wn,List.countP_cons,decide_eq_true_eq]
    omega
theorem wn_setP {ps:List Pr} {f:Pr → Pr} {p:Pr} (h:at? ps q = some p):wn (setP ps q f) + (if p.state = 2 then 1 else 0) = wn ps + (if (f p).state = 2 then 1 else 0):=wn_modify (at?_some.1 h).2
theorem mem_setP {ps:List Pr} {f:Pr → Pr} {r:Pr} (h:r ∈ setP ps q f):∃ r0 ∈ ps,r = r0 ∨ r = f r0:=by
 obtain ⟨i,hi⟩:=List.mem_iff_getElem?.1 h
 unfold Pl.setP at hi
 rw [List.getElem?_modify] at hi
 obtain ⟨r0,e1,e2⟩:=Option.map_eq_some_iff.1 hi
 refine ⟨r0,List.mem_of_getElem? e1,?_⟩
 split at e2
 ·exact .inr e2.symm
 ·exact .inl e2.symm
theorem at_mem {ps:List Pr} {p:Pr} (h:at? ps q = some p):p ∈ ps:=List.mem_of_getElem? (at?_some.1 h).2
theorem Cr.setR (h:Cr n t k) {p:Pr} (hp:at? t.ps q = some p) (hs:p.state = 1) {j:Nat} (hj:j ≠ 0) {m:Int} (hm:RegOk m) :
  ∃ u,Sy.setR (crS t k) q j m = crS u k ∧ Cr n u k ∧ at? u.ps q = some { p with regs:=p.regs.set j m } ∧ wn u.ps = wn t.ps:=by
 have h0:=at?_lt hp
 refine ⟨{ t with ps:=setP t.ps q (fun q => { q with regs:=q.regs.set j m }) },rfl,⟨tabOk_setR (s:=crS t k) h.ok hp (Nat.pos_of_ne_zero hj) m,by rw [setP_len]; exact h.len,fun r hr => (h.stB.setR q j m).wp r hr,RgOk.setR (s:=crS t k) h.rg hm,fun r hr => ?_,h.kk,fun hk r hr => ?_⟩,?_,?_⟩
 ·obtain ⟨r0,h1,rfl | rfl⟩:=mem_setP hr
  ·exact h.st _ h1
  ·exact h.st r0 h1
 ·obtain ⟨r0,h1,rfl | rfl⟩:=mem_setP hr
  ·exact h.no hk _ h1
  ·exact h.no hk r0 h1
 ·show at? (setP t.ps q _) q = _
  rw [at?_set h0.1,if_pos rfl,hp]
  rfl
 ·have:=wn_setP (f:=fun q => { q with regs:=q.regs.set j m }) hp
  show wn (setP t.ps q _) = _
  simp only [hs] at this
  omega
theorem Cr.wake (h:Cr n t k) {b:Int} {p:Pr} (hp:at? t.ps b = some p) (hs:p.state = 2):Cr n (t.wake b 0) k ∧ wn (t.wake b 0).ps + 1 = wn t.ps:=by
 refine ⟨⟨h.ok.wake hp hs 0,by rw [Tab.wake,setP_len]; exact h.len,fun r hr => ?_,?_,fun r hr => ?_,h.kk,fun hk r hr => ?_⟩,?_⟩
 ·obtain ⟨r0,h1,rfl | rfl⟩:=mem_setP hr
  ·exact h.wp _ h1
  ·have:=h.wp r0 h1
   unfold Wp at this ⊢
   simpa [wakeP] using this
 ·exact RgOk.setP (f:=wakeP 0) h.rg fun q hq r hr => (List.mem_or_eq_of_mem_set hr).elim (h.rg q hq r) fun e => e ▸ (show RegOk 0 from ⟨by decide,by decide⟩)
 ·obtain ⟨r0,h1,rfl | rfl⟩:=mem_setP hr
  ·exact h.st _ h1
  ·exact .inl rfl
 ·have:=h.no hk p (at_mem hp)
  omega
 ·have:=wn_setP (f:=wakeP 0) hp
  rw [if_pos hs,if_neg (show ¬ (wakeP 0 p).state = 2 from fun g => by cases g)] at this
  exact this
theorem Cr.wn0 (h:Cr n t k) (hw:∀ q ∈ t.ps,q.state = 1):wn t.ps = 0:=by
 unfold wn
 rw [List.countP_eq_zero]
 intro a ha
 have:=hw a ha
 simp [this]
theorem Cr.wnk (h:Cr n t k) (hk:0 < k):wn t.ps = 0:=h.wn0 (h.no hk)
theorem reg_of {p:Pr} (hp:at? t.ps q = some p) (j:Nat):regAt (crS t k) q j = (p.regs[j]?).getD 0:=by
 unfold regAt
 show ((at? t.ps q).bind fun q => q.regs[j]?).getD 0 = _
 rw [hp]
 rfl
theorem set_reg {p:Pr} (hw:Wp p) {j:Nat} (hj:j < 16) (m:Int):(p.regs.set j m)[j]? = some m:=by
 rw [List.getElem?_set_self (by rw [show p.regs.length = 16 from hw]; exact hj)]
theorem cr_signal (h : Cr n t k) {p : Pr} (hp : at? t.ps q = some p) (hs : p.state = 1) (hr : p.regs[1]? = some 0) :
    ∃ u k' r m, doSignal (crP n c) (crS t k) q = crS u k' ∧ Cr n u k' ∧ at? u.ps q = some r ∧ r.state = 1 ∧ r.regs[1]? = some m ∧
      (m = 0 ∧ (0 < wn t.ps ∧ wn u.ps + 1 = wn t.ps ∧ k' = k ∨ wn t.ps = 0 ∧ wn u.ps = 0 ∧ k' = k + 1) ∨ m = 4294967293 ∧ k = 255 ∧ wn t.ps = 0 ∧ wn u.ps = 0 ∧ k' = k):=by
  have e1:regAt (crS t k) q 1 = 0:=by rw [reg_of hp,hr]; rfl
  unfold doSignal
  rw [e1,if_pos (show (0:Int) < ((crP n c).sems.length:Int) from (by decide:(0:Int) < ((1:Nat):Int)))]
  have eg:(crS t k).sems.getD (0:Int).toNat 0 = k:=rfl
  rw [eg]
  have et:(crS t k).t = t:=rfl
  rw [et]
  cases hw:wt t.ps 3 0 with
  | nil =>
    have all : ∀ r ∈ t.ps, r.state = 1 := fun r hr => (h.st r hr).resolve_right fun g => by
      obtain ⟨j,hj⟩:=List.mem_iff_getElem?.1 hr
      have:((j:Nat):Int) ∈ wt t.ps 3 0:=mem_wt.2 ⟨r,by rw [at?_nat]; exact hj,g⟩
      rw [hw] at this
      cases this
    have w0:=h.wn0 all
    dsimp only
    by_cases h255:k = 255
    · rw [if_pos h255]
      obtain ⟨u,e2,hu,e3,e4⟩:=h.setR hp hs (j:=1) (m:=4294967293) (by decide) ⟨by omega,by omega⟩
      exact ⟨u,k,_,_,e2,hu,e3,hs,set_reg (h.wp p (at_mem hp)) (by decide) _,.inr ⟨rfl,h255,w0,by omega,rfl⟩⟩
    · rw [if_neg h255]
      have h':Cr n t (k + 1):=⟨h.ok,h.len,h.wp,h.rg,h.st,by have:=h.kk; omega,fun _ => all⟩
      obtain ⟨u,e2,hu,e3,e4⟩:=h'.setR hp hs (j:=1) (m:=0) (by decide) ⟨by omega,by omega⟩
      exact ⟨u,k + 1,_,_,e2,hu,e3,hs,set_reg (h.wp p (at_mem hp)) (by decide) _,.inl ⟨rfl,.inr ⟨w0,by omega,rfl⟩⟩⟩
  | cons b l =>
    have hmem:=best_wt hw
    rw [hw] at hmem
    have hmem':best (prio t.ps) b (b :: l) ∈ wt t.ps 3 0:=by rw [hw]; exact hmem
    dsimp only
    generalize best (prio t.ps) b (b :: l) = bb at *
    obtain ⟨p0,hp0,hw0⟩:=mem_wt.1 hmem'
    obtain ⟨hC,hn⟩:=h.wake hp0 hw0.1
    have hne:q ≠ bb:=fun e => by subst e; rw [hp] at hp0; injection hp0 with e; subst e; have:=hw0.1; omega
    have hat : at? (t.wake bb 0).ps q = some p := by
      show at? (setP t.ps bb _) q = _
      rw [at?_set (at?_lt hp0).1,if_neg hne,hp]
    obtain ⟨u,e2,hu,e3,e4⟩:=hC.setR hat hs (j:=1) (m:=0) (by decide) ⟨by omega,by omega⟩
    exact ⟨u,k,_,_,e2,hu,e3,hs,set_reg (h.wp p (at_mem hp)) (by decide) _,.inl ⟨rfl,.inl ⟨by omega,by omega,rfl⟩⟩⟩
theorem cr_take (h : Cr n t k) {p : Pr} (hp : at? t.ps q = some p) (hs : p.state = 1) (hr : p.regs[1]? = some 0) :
    ∃ u k' r m, doTake (crP n c) (crS t k) q 5 = crS u k' ∧ Cr n u k' ∧ at? u.ps q = some r ∧ r.regs[1]? = some m ∧
      (r.state = 1 ∧ m = 0 ∧ k' = k - 1 ∨ r.state = 1 ∧ (m = 4294967294 ∨ m = 4294967295) ∧ k' = k ∨ r.state = 2 ∧ k' = k):=by
  have e1:regAt (crS t k) q 1 = 0:=by rw [reg_of hp,hr]; rfl
  have hcan:=h.can (q:=q) (by unfold isReady; rw [hp]; exact congrArg some hs)
  have hb:=tabOk_take (p:=crP n c) hcan
  unfold doTake at hb ⊢
  rw [e1,if_pos (show (0:Int) < ((crP n c).sems.length:Int) from (by decide:(0:Int) < ((1:Nat):Int)))] at hb ⊢
  have eg:(crS t k).sems.getD (0:Int).toNat 0 = k:=rfl
  rw [eg] at hb ⊢
  have hwp:=h.wp p (at_mem hp)
  by_cases hto:timeOk (regAt (crS t k) q 2)
  · rw [if_pos hto] at hb ⊢
    by_cases hk:0 < k
    · rw [if_pos hk] at hb ⊢
      have h':Cr n t (k - 1):=⟨h.ok,h.len,h.wp,h.rg,h.st,by have:=h.kk; omega,fun _ => h.no hk⟩
      obtain ⟨u,e2,hu,e3,e4⟩:=h'.setR hp hs (j:=1) (m:=0) (by decide) ⟨by omega,by omega⟩
      exact ⟨u,k - 1,_,_,e2,hu,e3,set_reg hwp (by decide) _,.inl ⟨hs,rfl,rfl⟩⟩
    · rw [if_neg hk] at hb ⊢
      unfold doWait at hb ⊢
      by_cases h0:regAt (crS t k) q 2 = 0
      · rw [if_pos h0]
        obtain ⟨u,e2,hu,e3,e4⟩:=h.setR hp hs (j:=1) (m:=4294967294) (by decide) ⟨by omega,by omega⟩
        exact ⟨u,k,_,_,e2,hu,e3,set_reg hwp (by decide) _,.inr (.inl ⟨hs,.inl rfl,rfl⟩)⟩
      · rw [if_neg h0] at hb ⊢
        generalize (if regAt (crS t k) q 2 = 4294967295 then (-1:Int) else 5 + regAt (crS t k) q 2) = d at *
        refine ⟨Tab.block t q 3 0 d,k,blockP 3 0 p,0,rfl,⟨hb,by rw [block_len]; exact h.len,fun r hr => ?_,RgOk.setP (f:=blockP 3 0) h.rg fun q hq r hr => h.rg q hq r hr,fun r hr => ?_,h.kk,fun g => absurd g hk⟩,?_,hr,.inr (.inr ⟨rfl,rfl⟩)⟩
        · obtain ⟨r0,h1,rfl | rfl⟩:=mem_setP hr
          · exact h.wp _ h1
          · exact h.wp r0 h1
        · obtain ⟨r0,h1,rfl | rfl⟩:=mem_setP hr
          · exact h.st _ h1
          · exact .inr ⟨rfl,rfl,rfl⟩
        · show at? (setP t.ps q _) q = _
          rw [at?_set (at?_lt hp).1,if_pos rfl,hp]
          rfl
  · rw [if_neg hto]
    obtain ⟨u,e2,hu,e3,e4⟩:=h.setR hp hs (j:=1) (m:=4294967295) (by decide) ⟨by omega,by omega⟩
    exact ⟨u,k,_,_,e2,hu,e3,set_reg hwp (by decide) _,.inr (.inl ⟨hs,.inr rfl,rfl⟩)⟩
theorem crT_ok {n:Nat} (hn:n ≤ 8) (hc:CtOk c):Cr n (crT n) c:=by
 have key:∀ m:Nat,m ≤ 8 → TabOk (crT m) ∧ ∀ q ∈ (crT m).ps,q.state = 1 ∧ q.regs = Z16:=by
  intro m hm
  have:m = 0 ∨ m = 1 ∨ m = 2 ∨ m = 3 ∨ m = 4 ∨ m = 5 ∨ m = 6 ∨ m = 7 ∨ m = 8:=by omega
  rcases this with rfl | rfl | rfl | rfl | rfl | rfl | rfl | rfl | rfl <;> exact ⟨by decide,by decide⟩
 obtain ⟨h1,h2⟩:=key n hn
 refine ⟨h1,by simp [crT],fun q hq => ?_,fun q hq r hr => ?_,fun q hq => .inl (h2 q hq).1,hc,fun _ q hq => (h2 q hq).1⟩
 ·unfold Wp
  rw [(h2 q hq).2]
  rfl
 ·rw [(h2 q hq).2] at hr
  exact Rg.zero.ok r hr
end Sy
end Go.Fv.Tr
namespace Go.Fv.Tr
open Go Go.Fv Go.Fv.Pl Go.Proofs
variable {G:GV}
namespace Sy
def litCP (n:Nat) (c:Int):List V:=[i64 0,.bool false,.own 2 ((crP n c).pages.map gpR),.own 3 ((crP n c).procs.map cpR),.nils,i64 0,.own 1 ((crP n c).sems.map intRow)]
def litCS (n:Nat) (c:Int):List V:=[i64 0,i64 0,i64 0,.own 21 ((crT n).ps.map prRow),.own 1 ((crT n).q.map intRow),.nils,.nils,.own 1 ((crS (crT n) c).sems.map intRow),.nils,.own 66 ((crS (crT n) c).pages.map paR)]
def CrewLit (G:GV) (n:Nat):Prop:=∀ c:Int,(semC (cfg G) 50 13 9 [i64 (n:Nat),i64 c] Heap.empty).bind (fun r => giveV r.2 r.1) = some (.tuple [.agg (litCP n c),.agg (litCS n c)])
set_option maxRecDepth 100000 in
theorem crew1:CrewLit G 1:=fun c => by kernel_rfl
set_option maxRecDepth 100000 in
theorem crew2:CrewLit G 2:=fun c => by kernel_rfl
set_option maxRecDepth 100000 in
theorem crew3:CrewLit G 3:=fun c => by kernel_rfl
set_option maxRecDepth 100000 in
theorem crew4:CrewLit G 4:=fun c => by kernel_rfl
set_option maxRecDepth 100000 in
theorem crew5:CrewLit G 5:=fun c => by kernel_rfl
set_option maxRecDepth 100000 in
theorem crew6:CrewLit G 6:=fun c => by kernel_rfl
set_option maxRecDepth 100000 in
theorem crew7:CrewLit G 7:=fun c => by kernel_rfl
set_option maxRecDepth 100000 in
theorem crew8:CrewLit G 8:=fun c => by kernel_rfl
theorem crew_lit {n:Nat} (hn:1 ≤ n ∧ n ≤ 8):CrewLit G n:=by
 have:n = 1 ∨ n = 2 ∨ n = 3 ∨ n = 4 ∨ n = 5 ∨ n = 6 ∨ n = 7 ∨ n = 8:=by omega
 rcases this with rfl | rfl | rfl | rfl | rfl | rfl | rfl | rfl
 ·exact crew1
 ·exact crew2
 ·exact crew3
 ·exact crew4
 ·exact crew5
 ·exact crew6
 ·exact crew7
 ·exact crew8
variable {K:Heap}
theorem crew_new {n : Nat} (hn : 1 ≤ n ∧ n ≤ 8) (cc : Int) (hK : K.floor ≤ K.next) : Run (callV (cfg G) (sem (cfg G) 13) 9 [i64 (n : Nat), i64 cc]) K fun r K' => ∃ M lp a b c d ls x y z u v w g pr, r = .tuple [.agg lp, .agg ls] ∧ MP K' lp (crP n cc) a b c d ∧ MS K' ls (crS (crT n) cc) x y z u v w g pr ∧ Frame K K' (fun _ => False) ∧
    (∀ n ∈ lv [a,b,c,d],K.next ≤ n ∧ n < M) ∧ ∀ n ∈ lv [x,y,z,u,v,w,g] ++ lr pr,M ≤ n:=by
  have h:=crew_lit (G:=G) hn cc
  cases e:semC (cfg G) 50 13 9 [i64 (n:Nat),i64 cc] Heap.empty with
  | none => rw [e] at h; cases h
  | some r =>
    rw [e] at h
    simp only [Option.bind_some] at h
    refine callV_own rfl (bs:=[i64 (n:Nat),i64 cc]) rfl ⟨r.1,r.2,?_,_,h,?_⟩
    · exact sem_le 50 13 _ _ _ _ e
    · have tb:∀ q:Bool,take1 (.bool q) = M.ret (.bool q):=fun _ => rfl
      have ti:∀ n:Int,take1 (i64 n) = M.ret (i64 n):=fun _ => rfl
      have tn:take1 .nils = M.ret .nils:=rfl
      have go:∀ (z:Nat) (rows:List (List V)),Gv (.own z rows) z rows:=fun _ _ => .inr rfl
      simp only [takeV,takes2,take2,Run.bind,Run.ret]
      show Run (takes (litCP n cc)) K _
      unfold litCP
      simp only [takes,ti,tb,tn,Run.bind,Run.ret]
      refine ((go _ _).take hK).mono fun a K1 ⟨oa,fa,la⟩ => ?_
      have k1:K1.floor ≤ K1.next:=by rw [fa.floor]; exact Nat.le_trans hK fa.next
      refine ((go _ _).take k1).mono fun b K2 ⟨ob,fb,lb⟩ => ?_
      have k2:K2.floor ≤ K2.next:=by rw [fb.floor]; exact Nat.le_trans k1 fb.next
      refine ((go _ _).take k2).mono fun d K4 ⟨od,fd,ld⟩ => ?_
      have k4:K4.floor ≤ K4.next:=by rw [fd.floor]; exact Nat.le_trans k2 fd.next
      refine (takes_ms (s:=crS (crT n) cc) (go _ _) (go _ _) (.inl ⟨.inl rfl,rfl⟩) (.inl ⟨.inl rfl,rfl⟩) (go _ _) (.inl ⟨.inl rfl,rfl⟩) (go _ _) k4).mono fun ls K5 ⟨x,y,z,u,v,w,g,pr,ms,f5,hge⟩ => ?_
      have n1:=fa.next
      have n2:=fb.next
      have n4:=fd.next
      refine ⟨K4.next,_,a,b,.nils,d,ls,x,y,z,u,v,w,g,pr,rfl,⟨rfl,((oa.frame fb fun _ _ => id).frame fd fun _ _ => id).frame f5 fun _ _ => id,(ob.frame fd fun _ _ => id).frame f5 fun _ _ => id,Own.nils _ _,od.frame f5 fun _ _ => id⟩,ms,((fa.tr fb).tr fd).tr f5,fun n hn => ?_,hge⟩
      obtain ⟨q,hq,hl⟩:=mem_lv.1 hn
      simp only [List.mem_cons,List.not_mem_nil,or_false] at hq
      rcases hq with rfl | rfl | rfl | rfl
      · have:=la n hl; have:=oa.loc_lt hl; omega
      · have:=lb n hl; have:=ob.loc_lt hl; omega
      · cases hl
      · have:=ld n hl; have:=od.loc_lt hl; omega
end Sy
end Go.Fv.Tr
