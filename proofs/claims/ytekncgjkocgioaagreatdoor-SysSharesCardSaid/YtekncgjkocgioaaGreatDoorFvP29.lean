/-
  What the functions of the layer 9 answer: WakeAll and Fire of the program. By an AI agent; no person has read it.
-/
import Derived.Test.YtekncgjkocgioaaGreatDoorFvP28
set_option linter.unusedVariables false
set_option linter.unusedSimpArgs false
set_option linter.unusedSectionVars false
/-! What the functions of the layer 9 answer: WakeAll and Fire of the program. -/
namespace Go.Fv.Tr
open Go Go.Fv Go.Fv.Pl Go.Proofs
variable {G:GV}
theorem thaw2_tab {H:Heap} {x y z:V} {t:Tab} (h:OwnTab H x y z t) (hw:∀ p ∈ t.ps,Wp p) (hb:TabOk t) (ok:Bool):∃ a b c,thaw2 ok H (.agg [x,y,z]) = some (.agg [a,b,c]) ∧ IsTab a b c t:=by
 obtain ⟨a,a1,a2⟩:=h.p.thaw (flat_pr _) ok
 obtain ⟨b,b1,b2⟩:=h.q.thaw (flat_ir _) ok
 obtain ⟨c,c1,c2⟩:=h.s.thaw (flat_tm _) ok
 have e1:[x,y,z].mapM (thaw ok H) = some [a,b,c]:=by simp [a1,b1,c1]
 exact ⟨a,b,c,by simp only [thaw2,e1]; rfl,a2,b2,c2,hw,big_of hb⟩
structure InT (H:Heap) (lt:Nat) (u:Tab):Prop where
 fl:H.floor = 0
 b1:H.blk 1 = some ⟨3,[[.nils,.nils,.nils]]⟩
 l2:2 ≤ lt
 ln:lt < H.next
 tab:∃ x y z,H.blk lt = some ⟨3,[[x,y,z]]⟩ ∧ OwnTab H x y z u ∧ ∀ k,(loc x = some k ∨ loc y = some k ∨ loc z = some k) → 2 ≤ k ∧ k ≠ lt
 wp:∀ p ∈ u.ps,Wp p
theorem InT.start {H0 H:Heap} {x y z:V} {t:Tab} (h:OwnTab H x y z t) (f:Frame H0 H (fun _ => False)) (h0:H0.floor = 0) (hn:2 ≤ H0.next) (b1:H0.blk 1 = some ⟨3,[[.nils,.nils,.nils]]⟩)
  (hl:∀ k,(loc x = some k ∨ loc y = some k ∨ loc z = some k) → H0.next ≤ k) (hw:∀ p ∈ t.ps,Wp p):InT ((H.add ⟨3,[[.nils,.nils,.nils]]⟩).set H.next ⟨3,[[x,y,z]]⟩) H.next t:=by
 have fA:Frame H ((H.add ⟨3,[[.nils,.nils,.nils]]⟩).set H.next ⟨3,[[x,y,z]]⟩) (fun _ => False):=Frame.loc _ _
 have hn2:=f.next
 exact ⟨(fA.floor.trans f.floor).trans h0,(fA.old 1 (by omega) id).trans ((f.old 1 (by omega) id).trans b1),by omega,Nat.lt_succ_self _,⟨x,y,z,by rw [Heap.set_blk,if_pos rfl],h.frame fA fun _ _ g => g,
  fun k hk => ⟨by have:=hl k hk; omega,by have:=h.lt hk; omega⟩⟩,hw⟩
theorem nodup_take {α:Type} {l:List α} (h:l.Nodup) (i:Nat):(l.take i).Nodup:=h.sublist (List.take_sublist i l)
theorem nodup_get {α:Type} {l:List α} (h:l.Nodup) {i:Nat} (hi:i < l.length):l[i] ∉ l.take i:=fun hm => by
 have:=nodup_take h (i + 1)
 rw [take_snoc hi,List.nodup_append] at this
 exact this.2.2 _ hm _ (List.mem_singleton.2 rfl) rfl
structure Wl (t:Tab) (l:List Int):Prop where
 nd:l.Nodup
 st:∀ n ∈ l,(at? t.ps n).map Pr.state = some 2
theorem Wl.ok {t:Tab} {l:List Int} (h:Wl t l) (ht:TabOk t) (r:Pr → Int) (i:Nat):TabOk (t.wakes r (l.take i)):=ht.wakes (nodup_take h.nd i) fun n hn => h.st n (List.mem_of_mem_take hn)
theorem Wl.at {t:Tab} {l:List Int} (h:Wl t l) (r:Pr → Int) {i:Nat} (hi:i < l.length):∃ p,at? t.ps l[i] = some p ∧ p.state = 2 ∧ at? (t.wakes r (l.take i)).ps l[i] = some p:=by
 obtain ⟨p,hp,hs⟩:=Option.map_eq_some_iff.1 (h.st _ (List.getElem_mem hi))
 refine ⟨p,hp,hs,?_⟩
 rw [wakes_at (fun n hn => ?_) (nodup_get h.nd hi)]
 ·exact hp
 ·obtain ⟨q,hq,_⟩:=Option.map_eq_some_iff.1 (h.st n (List.mem_of_mem_take hn))
  exact (at?_lt hq).1
theorem Wl.len {t:Tab} {l:List Int} (h:Wl t l) (ht:TabOk t):l.length ≤ 8:=by
 refine nodup_lenI h.nd fun n hn => ?_
 obtain ⟨q,hq,_⟩:=Option.map_eq_some_iff.1 (h.st n hn)
 have:=at?_lt hq
 have:=ht.few
 omega
theorem wt_wl {t:Tab} (w o:Int):Wl t (wt t.ps w o):=⟨wt_nodup _ _ _,fun n hn => by
 obtain ⟨p,hp,hw⟩:=mem_wt.1 hn
 rw [hp]; exact congrArg some hw.1⟩
end Go.Fv.Tr
namespace Go.Fv.Tr
open Go Go.Fv Go.Proofs
set_option maxRecDepth 20000
end Go.Fv.Tr
namespace Go.Fv.Tr
open Go Go.Fv Go.Fv.Pl Go.Proofs
variable {G:GV}
end Go.Fv.Tr
namespace Go.Fv.Tr
open Go Go.Fv Go.Fv.Pl Go.Proofs
variable {G:GV}
structure InW (H:Heap) (x y z:V) (lt:Nat) (a b c:V) (u:Tab):Prop where
 fl:H.floor = 0
 b0:H.blk 0 = some ⟨3,[[x,y,z]]⟩
 b1:H.blk 1 = some ⟨3,[[.nils,.nils,.nils]]⟩
 l2:2 ≤ lt
 ln:lt < H.next
 bl:H.blk lt = some ⟨3,[[a,b,c]]⟩
 o:OwnTab H a b c u
 k:∀ k,(loc a = some k ∨ loc b = some k ∨ loc c = some k) → 2 ≤ k ∧ k ≠ lt
end Go.Fv.Tr
namespace Go.Fv.Tr
open Go Go.Fv Go.Fv.Pl Go.Proofs
variable {G:GV}
def allRight (ts:List Tm):Prop:=∀ t ∈ ts,right 8 t
instance (ts:List Tm):Decidable (allRight ts):=inferInstanceAs (Decidable (∀ t ∈ ts,right 8 t))
end Go.Fv.Tr
namespace Go.Fv.Tr
open Go Go.Fv Go.Fv.Pl Go.Proofs
variable {G:GV}
end Go.Fv.Tr
namespace Go.Fv.Tr
open Go Go.Fv Go.Fv.Pl Go.Proofs
variable {G:GV}
namespace Sy
structure Po where
 msgs:List ByteArray
 age:Int
structure Pa where
 r:Int
 d:Bool
 data:List Int
structure St where
 id:Int
 fr:Int
 ep:Int
 t:Tab
 up:List Bool
 sems:List Int
 ports:List Po
 pages:List Pa
structure Gp where
 r:Int
 init:ByteArray
structure Cp where
 entry:Int
 prio:Int
 auto:Bool
structure Tp where
 kind:Int
 size:Int
 depth:Int
 fresh:Int
structure Pn where
 id:Int
 mob:Bool
 pages:List Gp
 procs:List Cp
 ports:List Tp
 ev:Int
 sems:List Int
def boR (b:Bool):List V:=[.bool b]
def stR (s:ByteArray):List V:=[.str s]
def paR (p:Pa):List V:=i64 p.r :: .bool p.d :: p.data.map fun n => V.int .u8 n
def gpR (p:Gp):List V:=[i64 p.r,.str p.init]
def cpR (p:Cp):List V:=[i64 p.entry,i64 p.prio,.bool p.auto]
def tpR (p:Tp):List V:=[i64 p.kind,i64 p.size,i64 p.depth,i64 p.fresh]
def PoS (row:List V) (p:Po):Prop:=∃ m,row = [m,i64 p.age] ∧ Sls m 1 (p.msgs.map stR) ∧ p.msgs.length ≤ big
structure StS (l:List V) (s:St) (x y z a b c d:V) (pr:List (List V)):Prop where
 eq:l = [i64 s.id,i64 s.fr,i64 s.ep,x,y,z,a,b,c,d]
 t:IsTab x y z s.t
 up:Sls a 1 (s.up.map boR)
 sems:Sls b 1 (s.sems.map intRow)
 ports:Sls c 2 pr
 pages:Sls d 66 (s.pages.map paR)
 plen:pr.length = s.ports.length
 prow:∀ (j:Nat) (hj:j < pr.length),PoS pr[j] (s.ports[j]'(by rw [← plen]; exact hj))
 big:s.up.length ≤ big ∧ s.sems.length ≤ big ∧ s.ports.length ≤ big ∧ s.pages.length ≤ big
 data:∀ p ∈ s.pages,p.data.length = 64
structure PnS (l:List V) (p:Pn) (a b c d:V):Prop where
 eq:l = [i64 p.id,.bool p.mob,a,b,c,i64 p.ev,d]
 pages:Sls a 2 (p.pages.map gpR)
 procs:Sls b 3 (p.procs.map cpR)
 ports:Sls c 4 (p.ports.map tpR)
 sems:Sls d 1 (p.sems.map intRow)
 big:p.pages.length ≤ big ∧ p.procs.length ≤ big ∧ p.ports.length ≤ big ∧ p.sems.length ≤ big
variable {l m:List V} {s:St} {p:Pn} {x y z a b c d e f g h:V} {pr:List (List V)}
theorem PnS.closedV (hp:PnS l p a b c d):(V.agg l).closedV = true:=by
 rw [hp.eq]
 show ([i64 p.id,.bool p.mob,a,b,c,i64 p.ev,d]:List V).all V.closed = true
 simp only [List.all_cons,List.all_nil,hp.pages.closed,hp.procs.closed,hp.ports.closed,hp.sems.closed]
 rfl
theorem StS.closedV (hs:StS l s x y z a b c d pr):(V.agg l).closedV = true:=by
 rw [hs.eq]
 show ([i64 s.id,i64 s.fr,i64 s.ep,x,y,z,a,b,c,d]:List V).all V.closed = true
 simp only [List.all_cons,List.all_nil,hs.t.p.closed,hs.t.q.closed,hs.t.s.closed,hs.up.closed,hs.sems.closed,hs.ports.closed,hs.pages.closed]
 rfl
def outT (q:Tp):Prop:=q.kind = 2 ∨ q.kind = 4
def queT (q:Tp):Prop:=q.kind = 3 ∨ q.kind = 4
instance (q:Tp):Decidable (outT q):=inferInstanceAs (Decidable (_ ∨ _))
instance (q:Tp):Decidable (queT q):=inferInstanceAs (Decidable (_ ∨ _))
def TpOk (q:Tp):Prop:=(1 ≤ q.kind ∧ q.kind ≤ 4) ∧ (1 ≤ q.size ∧ q.size ≤ 32) ∧ (1 ≤ q.depth ∧ q.depth ≤ if queT q then 8 else 1) ∧ (0 ≤ q.fresh ∧ q.fresh ≤ if q.kind = 1 then 255 else 0)
instance (q:Tp):Decidable (TpOk q):=inferInstanceAs (Decidable (_ ∧ _ ∧ _ ∧ _))
def mostT (q:Tp):Int:=if outT q then 2 else 2 + q.depth * (1 + q.size)
def boundP (p:Pn):Int:=58 + 76 * p.procs.length + 68 * p.pages.length + p.ev + p.sems.length + (p.ports.map fun q => 3 + mostT q).sum
def GpOk (q:Gp):Prop:=(0 ≤ q.r ∧ q.r ≤ 7) ∧ q.init.size ≤ 64
instance (q:Gp):Decidable (GpOk q):=inferInstanceAs (Decidable (_ ∧ _))
def CpOk (k:Nat) (q:Cp):Prop:=(0 ≤ q.entry ∧ q.entry < 64 * k ∧ q.entry.tmod 4 = 0) ∧ 0 ≤ q.prio ∧ q.prio ≤ 255
instance (k:Nat) (q:Cp):Decidable (CpOk k q):=inferInstanceAs (Decidable (_ ∧ _ ∧ _))
def CtOk (n:Int):Prop:=0 ≤ n ∧ n ≤ 255
instance (n:Int):Decidable (CtOk n):=inferInstanceAs (Decidable (_ ∧ _))
structure PnOk (p:Pn):Prop where
 id:0 ≤ p.id ∧ p.id ≤ 2147483647
 pages:(1 ≤ p.pages.length ∧ p.pages.length ≤ 32) ∧ ∀ q ∈ p.pages,GpOk q
 procs:(1 ≤ p.procs.length ∧ p.procs.length ≤ 8) ∧ ∀ q ∈ p.procs,CpOk p.pages.length q
 ports:p.ports.length ≤ 8 ∧ ∀ q ∈ p.ports,TpOk q
 ev:0 ≤ p.ev ∧ p.ev ≤ 8
 sems:p.sems.length ≤ 8 ∧ ∀ n ∈ p.sems,CtOk n
 bound:boundP p ≤ 4096
theorem PnOk_iff (p:Pn):PnOk p ↔ (0 ≤ p.id ∧ p.id ≤ 2147483647) ∧ ((1 ≤ p.pages.length ∧ p.pages.length ≤ 32) ∧ ∀ q ∈ p.pages,GpOk q) ∧ ((1 ≤ p.procs.length ∧ p.procs.length ≤ 8) ∧ ∀ q ∈ p.procs,CpOk p.pages.length q) ∧
  (p.ports.length ≤ 8 ∧ ∀ q ∈ p.ports,TpOk q) ∧ (0 ≤ p.ev ∧ p.ev ≤ 8) ∧ (p.sems.length ≤ 8 ∧ ∀ n ∈ p.sems,CtOk n) ∧ boundP p ≤ 4096 :=
 ⟨fun ⟨a,b,c,d,e,f,g⟩ => ⟨a,b,c,d,e,f,g⟩,fun ⟨a,b,c,d,e,f,g⟩ => ⟨a,b,c,d,e,f,g⟩⟩
instance (p:Pn):Decidable (PnOk p):=decidable_of_iff _ (PnOk_iff p).symm
def ObjOk (p:Pn) (w o:Int):Prop :=
 if w = 2 then 0 ≤ o ∧ o < p.ev else if w = 3 then 0 ≤ o ∧ o < p.sems.length else if w = 4 then 0 ≤ o ∧ ∃ q,p.ports[o.toNat]? = some q ∧ queT q else o = 0
instance (o:Option Tp):Decidable (∃ q,o = some q ∧ queT q):=match o with
 | none => isFalse fun ⟨_,h,_⟩ => by cases h
 | some q => if h:queT q then isTrue ⟨q,rfl,h⟩ else isFalse fun ⟨_,e,g⟩ => by cases e; exact h g
instance (p:Pn) (w o:Int):Decidable (ObjOk p w o):=by unfold ObjOk; infer_instance
def nth? {α:Type} (l:List α) (n:Int):Option α:=if 0 ≤ n then l[n.toNat]? else none
def upOk (p:Pn) (s:St) (w o:Int):Prop:=w = 2 → o < p.ev → nth? s.up o ≠ some true
def semOk (p:Pn) (s:St) (w o:Int):Prop:=w = 3 → o < p.sems.length → ∀ n,nth? s.sems o = some n → n = 0
def pqOk (q:Tp) (r:Po):Prop:=(q.kind = 3 → r.msgs.length = 0) ∧ (q.kind = 4 → (r.msgs.length:Int) = q.depth)
def porOk (p:Pn) (s:St) (w o:Int):Prop:=w = 4 → ∀ q,nth? p.ports o = some q → ∀ r,nth? s.ports o = some r → pqOk q r
instance (q:Tp) (r:Po):Decidable (pqOk q r):=inferInstanceAs (Decidable (_ ∧ _))
instance (p:Pn) (s:St) (w o:Int):Decidable (upOk p s w o):=by unfold upOk; infer_instance
instance {α:Type} (o:Option α) (P:α → Prop) [DecidablePred P]:Decidable (∀ n,o = some n → P n):=match o with
 | none => isTrue fun _ h => by cases h
 | some n => if h:P n then isTrue fun _ e => by cases e; exact h else isFalse fun g => h (g n rfl)
instance (p:Pn) (s:St) (w o:Int):Decidable (semOk p s w o):=by unfold semOk; infer_instance
instance (p:Pn) (s:St) (w o:Int):Decidable (porOk p s w o):=by unfold porOk; infer_instance
def Both (R:Tp → Po → Prop) (p:Pn) (s:St):Prop:=∀ x ∈ p.ports.zip s.ports,R x.1 x.2
instance (R:Tp → Po → Prop) [∀ a b,Decidable (R a b)] (p:Pn) (s:St):Decidable (Both R p s):=by unfold Both; infer_instance
def holdOk (q:Tp) (r:Po):Prop:=(r.msgs.length:Int) ≤ q.depth ∧ ∀ m ∈ r.msgs,(m.size:Int) ≤ q.size
def ageOk (q:Tp) (r:Po):Prop:=(0 ≤ r.age ∧ r.age ≤ 255) ∧ (r.age = 0 ∨ q.kind = 1 ∧ 0 < r.msgs.length)
def emptyOk (q:Tp) (r:Po):Prop:=outT q → r.msgs.length = 0
instance (q:Tp) (r:Po):Decidable (holdOk q r):=inferInstanceAs (Decidable (_ ∧ _))
instance (q:Tp) (r:Po):Decidable (ageOk q r):=inferInstanceAs (Decidable (_ ∧ _))
instance (q:Tp) (r:Po):Decidable (emptyOk q r):=inferInstanceAs (Decidable (_ → _))
def TimedOk (t:Tab):Prop:=(∀ a ∈ t.ts,∀ q,at? t.ps a.proc = some q → q.state = 2) ∧ ∀ i,i < t.ps.length → ∀ q,t.ps[i]? = some q → q.wait = 1 → timed t.ts (i:Nat)
instance (t:Tab):Decidable (TimedOk t):=inferInstanceAs (Decidable (_ ∧ ∀ i,i < _ → _))
def Rule (p:Pn) (s:St):Nat → Prop
 | 1 => s.id = p.id
 | 2 => (0 ≤ s.fr ∧ s.fr ≤ 2147483647) ∧ (0 ≤ s.ep ∧ s.ep ≤ 2147483647)
 | 3 => s.t.ps.length = p.procs.length ∧ s.ports.length = p.ports.length ∧ s.pages.length = p.pages.length ∧ (s.up.length:Int) = p.ev ∧ s.sems.length = p.sems.length
 | 4 => ∀ q ∈ s.t.ps,NumOk q
 | 5 => ∀ q ∈ s.t.ps,(q.wait ≠ 0 ↔ q.state = 2)
 | 6 => ∀ q ∈ s.t.ps,ObjOk p q.wait q.obj
 | 7 => QOk s.t.ps s.t.q
 | 8 => TsOk s.t.ps.length s.t.ts
 | 9 => TimedOk s.t
 | 10 => ∀ n ∈ s.sems,CtOk n
 | 11 => Both holdOk p s
 | 12 => Both ageOk p s
 | 13 => ∀ x ∈ p.pages.zip s.pages,x.1.r = x.2.r
 | 14 => ∀ q ∈ s.t.ps,upOk p s q.wait q.obj
 | 15 => ∀ q ∈ s.t.ps,semOk p s q.wait q.obj
 | 16 => ∀ q ∈ s.t.ps,porOk p s q.wait q.obj
 | 17 => Both emptyOk p s
 | _ => True
instance (p:Pn) (s:St) (n:Nat):Decidable (Rule p s n):=by
 unfold Rule
 split <;> infer_instance
end Sy
end Go.Fv.Tr
namespace Go.Fv.Tr
open Go Go.Fv Go.Proofs
set_option maxRecDepth 20000
noncomputable def ferry_port_isIn (G:GV) (call:CV) (x0:V):M R :=
 (newV x0).bind fun aA =>
 (M.ret (V.bool false)).bind fun aB =>
 (M.lift (padd 0 aA)).bind fun aC =>
 (load1 aC).bind fun aD =>
 (M.lift ((eqV (.sc .int) true aD (V.int .i64 1)).bind fun b => some (.bool b))).bind fun aE =>
 (M.ret aE).bind fun aF =>
 (guardV aF false (M.lift (padd 0 aA))).bind fun aG =>
 (guardV aF false (load1 aG)).bind fun aH =>
 (guardV aF false (M.lift ((eqV (.sc .int) true aH (V.int .i64 3)).bind fun b => some (.bool b)))).bind fun aI =>
 (M.lift (pickV aF (V.bool true) aI)).bind fun aJ =>
 (M.ret aJ).bind fun aK =>
 M.ret (Ex.ret,[aK])
theorem ferry_port_isIn_eq (G:GV) (n:Nat) (x0:V):sem (cfg G) (n + 1) 142 [x0] = outV (ferry_port_isIn G (sem (cfg G) n) x0) :=
 (fnV_at (C:=cfg G) (n:=n) (f:=142) (fn:=Tryz.f142) (c:=Tryz.f142.body.getD .skip) (by kernel_rfl) (by kernel_rfl) (by kernel_rfl) [x0]).trans (by kernel_rfl)
noncomputable def ferry_port_isQueue (G:GV) (call:CV) (x0:V):M R :=
 (newV x0).bind fun aA =>
 (M.ret (V.bool false)).bind fun aB =>
 (M.lift (padd 0 aA)).bind fun aC =>
 (load1 aC).bind fun aD =>
 (M.lift ((eqV (.sc .int) true aD (V.int .i64 3)).bind fun b => some (.bool b))).bind fun aE =>
 (M.ret aE).bind fun aF =>
 (guardV aF false (M.lift (padd 0 aA))).bind fun aG =>
 (guardV aF false (load1 aG)).bind fun aH =>
 (guardV aF false (M.lift ((eqV (.sc .int) true aH (V.int .i64 4)).bind fun b => some (.bool b)))).bind fun aI =>
 (M.lift (pickV aF (V.bool true) aI)).bind fun aJ =>
 (M.ret aJ).bind fun aK =>
 M.ret (Ex.ret,[aK])
theorem ferry_port_isQueue_eq (G:GV) (n:Nat) (x0:V):sem (cfg G) (n + 1) 143 [x0] = outV (ferry_port_isQueue G (sem (cfg G) n) x0) :=
 (fnV_at (C:=cfg G) (n:=n) (f:=143) (fn:=Tryz.f143) (c:=Tryz.f143.body.getD .skip) (by kernel_rfl) (by kernel_rfl) (by kernel_rfl) [x0]).trans (by kernel_rfl)
noncomputable def ferry_port_isOut (G:GV) (call:CV) (x0:V):M R :=
 (newV x0).bind fun aA =>
 (M.ret (V.bool false)).bind fun aB =>
 (M.lift (padd 0 aA)).bind fun aC =>
 (load1 aC).bind fun aD =>
 (M.lift ((eqV (.sc .int) true aD (V.int .i64 2)).bind fun b => some (.bool b))).bind fun aE =>
 (M.ret aE).bind fun aF =>
 (guardV aF false (M.lift (padd 0 aA))).bind fun aG =>
 (guardV aF false (load1 aG)).bind fun aH =>
 (guardV aF false (M.lift ((eqV (.sc .int) true aH (V.int .i64 4)).bind fun b => some (.bool b)))).bind fun aI =>
 (M.lift (pickV aF (V.bool true) aI)).bind fun aJ =>
 (M.ret aJ).bind fun aK =>
 M.ret (Ex.ret,[aK])
theorem ferry_port_isOut_eq (G:GV) (n:Nat) (x0:V):sem (cfg G) (n + 1) 146 [x0] = outV (ferry_port_isOut G (sem (cfg G) n) x0) :=
 (fnV_at (C:=cfg G) (n:=n) (f:=146) (fn:=Tryz.f146) (c:=Tryz.f146.body.getD .skip) (by kernel_rfl) (by kernel_rfl) (by kernel_rfl) [x0]).trans (by kernel_rfl)
noncomputable def slices_ContainsFunc_int_int (G:GV) (call:CV) (x0:V) (x1:V):M R :=
 (M.ret (V.bool false)).bind fun aA =>
 (M.ret x0).bind fun aB =>
 (M.ret x1).bind fun aC =>
 (callV (cfg G) call 228 [aB,aC]).bind fun aD =>
 (M.lift (arithV .geq aD (V.int .i64 0))).bind fun aE =>
 (M.ret aE).bind fun aF =>
 M.ret (Ex.ret,[aF])
theorem slices_ContainsFunc_int_int_eq (G:GV) (n:Nat) (x0:V) (x1:V):sem (cfg G) (n + 1) 166 [x0,x1] = outV (slices_ContainsFunc_int_int G (sem (cfg G) n) x0 x1) :=
 (fnV_at (C:=cfg G) (n:=n) (f:=166) (fn:=Tryz.f166) (c:=Tryz.f166.body.getD .skip) (by kernel_rfl) (by kernel_rfl) (by kernel_rfl) [x0,x1]).trans (by kernel_rfl)
noncomputable def slices_ContainsFunc_string_string (G:GV) (call:CV) (x0:V) (x1:V):M R :=
 (M.ret (V.bool false)).bind fun aA =>
 (M.ret x0).bind fun aB =>
 (M.ret x1).bind fun aC =>
 (callV (cfg G) call 229 [aB,aC]).bind fun aD =>
 (M.lift (arithV .geq aD (V.int .i64 0))).bind fun aE =>
 (M.ret aE).bind fun aF =>
 M.ret (Ex.ret,[aF])
theorem slices_ContainsFunc_string_string_eq (G:GV) (n:Nat) (x0:V) (x1:V):sem (cfg G) (n + 1) 170 [x0,x1] = outV (slices_ContainsFunc_string_string G (sem (cfg G) n) x0 x1) :=
 (fnV_at (C:=cfg G) (n:=n) (f:=170) (fn:=Tryz.f170) (c:=Tryz.f170.body.getD .skip) (by kernel_rfl) (by kernel_rfl) (by kernel_rfl) [x0,x1]).trans (by kernel_rfl)
noncomputable def ferry_port_CheckPlan_j1 (G:GV) (call:CV) (aA:V) (aB:V) (aC:V):M R :=
 (loadN 4 aA).bind fun aD =>
 (callV (cfg G) call 142 [aD]).bind fun aE =>
 (M.lift (unV .not aE)).bind fun aF =>
 (M.ret aF).bind fun aG =>
 (guardV aG true (loadN 4 aA)).bind fun aH =>
 (guardV aG true (callV (cfg G) call 146 [aH])).bind fun aI =>
 (guardV aG true (M.lift (unV .not aI))).bind fun aJ =>
 (M.lift (pickV aG aJ (V.bool false))).bind fun aK =>
 (M.ret aK).bind fun aL =>
 (condV aL
 ((load1 (glob (cfg G) 9)).bind fun aM =>
 (M.ret aM).bind fun aN =>
 M.ret (Ex.ret,[aN]))
 ((M.lift (padd 1 aA)).bind fun aO =>
 (load1 aO).bind fun aP =>
 (M.lift (arithV .lss aP (V.int .i64 1))).bind fun aQ =>
 (M.ret aQ).bind fun aR =>
 (guardV aR false (M.lift (padd 1 aA))).bind fun aS =>
 (guardV aR false (load1 aS)).bind fun aT =>
 (guardV aR false (M.lift (arithV .gtr aT (V.int .i64 32)))).bind fun aU =>
 (M.lift (pickV aR (V.bool true) aU)).bind fun aV =>
 (M.ret aV).bind fun aW =>
 (condV aW
 ((load1 (glob (cfg G) 11)).bind fun aX =>
 (M.ret aX).bind fun aY =>
 M.ret (Ex.ret,[aY]))
 ((M.lift (padd 2 aA)).bind fun aZ =>
 (load1 aZ).bind fun bA =>
 (M.lift (arithV .lss bA (V.int .i64 1))).bind fun bB =>
 (M.ret bB).bind fun bC =>
 (guardV bC false (M.lift (padd 2 aA))).bind fun bD =>
 (guardV bC false (load1 bD)).bind fun bE =>
 (guardV bC false (M.ret aB)).bind fun bF =>
 (guardV bC false (M.lift (arithV .gtr bE bF))).bind fun bG =>
 (M.lift (pickV bC (V.bool true) bG)).bind fun bH =>
 (M.ret bH).bind fun bI =>
 (guardV bI false (M.lift (padd 3 aA))).bind fun bJ =>
 (guardV bI false (load1 bJ)).bind fun bK =>
 (guardV bI false (M.lift (arithV .lss bK (V.int .i64 0)))).bind fun bL =>
 (M.lift (pickV bI (V.bool true) bL)).bind fun bM =>
 (M.ret bM).bind fun bN =>
 (guardV bN false (M.lift (padd 3 aA))).bind fun bO =>
 (guardV bN false (load1 bO)).bind fun bP =>
 (guardV bN false (M.ret aC)).bind fun bQ =>
 (guardV bN false (M.lift (arithV .gtr bP bQ))).bind fun bR =>
 (M.lift (pickV bN (V.bool true) bR)).bind fun bS =>
 (M.ret bS).bind fun bT =>
 (condV bT
 ((load1 (glob (cfg G) 6)).bind fun bU =>
 (M.ret bU).bind fun bV =>
 M.ret (Ex.ret,[bV]))
 ((M.ret V.nili).bind fun bW =>
 M.ret (Ex.ret,[bW])))))))
noncomputable def ferry_port_CheckPlan_j2 (G:GV) (call:CV) (aA:V) (aB:V) (aC:V):M R :=
 (M.lift (padd 0 aA)).bind fun aD =>
 (load1 aD).bind fun aE =>
 (M.lift ((eqV (.sc .int) true aE (V.int .i64 1)).bind fun b => some (.bool b))).bind fun aF =>
 (condV aF
 ((M.ret (V.int .i64 255)).bind fun aG =>
 ferry_port_CheckPlan_j1 G call aA aC aG)
 (ferry_port_CheckPlan_j1 G call aA aC aB))
noncomputable def ferry_port_CheckPlan (G:GV) (call:CV) (x0:V):M R :=
 (newV x0).bind fun aA =>
 (M.ret V.nili).bind fun aB =>
 (M.ret (V.int .i64 1)).bind fun aC =>
 (M.ret (V.int .i64 0)).bind fun aD =>
 (loadN 4 aA).bind fun aE =>
 (callV (cfg G) call 143 [aE]).bind fun aF =>
 (condV aF
 ((M.ret (V.int .i64 8)).bind fun aG =>
 ferry_port_CheckPlan_j2 G call aA aD aG)
 (ferry_port_CheckPlan_j2 G call aA aD aC))
theorem ferry_port_CheckPlan_eq (G:GV) (n:Nat) (x0:V):sem (cfg G) (n + 1) 208 [x0] = outV (ferry_port_CheckPlan G (sem (cfg G) n) x0) :=
 (fnV_at (C:=cfg G) (n:=n) (f:=208) (fn:=Tryz.f208) (c:=Tryz.f208.body.getD .skip) (by kernel_rfl) (by kernel_rfl) (by kernel_rfl) [x0]).trans (by kernel_rfl)
noncomputable def slices_IndexFunc_string_string_l1 (G:GV) (call:CV) (aA:V) (x1:V) (x0:V) (aB:List V):M R :=
 (M.lift (arithV .lss (aB.getD 1 V.undef) aA)).bind fun aC =>
 (condV aC
 ((M.ret (aB.getD 1 V.undef)).bind fun aD =>
 (M.ret aD).bind fun aE =>
 (M.ret x1).bind fun aF =>
 (M.ret x0).bind fun aG =>
 (M.ret aE).bind fun aH =>
 (M.lift (idxV 1 aG aH)).bind fun aI =>
 (load1 aI).bind fun aJ =>
 (callFn (cfg G) call aF [aJ]).bind fun aK =>
 (condV aK
 ((M.ret aE).bind fun aL =>
 (M.ret aL).bind fun aM =>
 M.ret (Ex.ret,[aM,(aB.getD 1 V.undef)]))
 ((M.lift (arithV .add (aB.getD 1 V.undef) (V.int .i64 1))).bind fun aN =>
 (M.ret aN).bind fun aO =>
 M.ret (Ex.normal,[(aB.getD 0 V.undef),aO]))))
 (M.ret ((Ex.exit 0),[(aB.getD 0 V.undef),(aB.getD 1 V.undef)])))
noncomputable def slices_IndexFunc_string_string (G:GV) (call:CV) (x0:V) (x1:V):M R :=
 (M.ret (V.int .i64 0)).bind fun aA =>
 (M.ret x0).bind fun aB =>
 (M.lift (lenV aB)).bind fun aC =>
 (M.ret (V.int .i64 0)).bind fun aD =>
 (loopV (slices_IndexFunc_string_string_l1 G call aC x1 x0) [aA,aD]).bind fun aE => match aE.1 with
 | .normal => M.fail
 | .exit k0_20 =>
 (if k0_20 = 0 then
 (M.ret (V.int .i64 (-1))).bind fun aF =>
 M.ret (Ex.ret,[aF])
 else M.fail)
 | .ret =>
 M.ret (Ex.ret,[(aE.2.getD 0 V.undef)])
theorem slices_IndexFunc_string_string_eq (G:GV) (n:Nat) (x0:V) (x1:V):sem (cfg G) (n + 1) 229 [x0,x1] = outV (slices_IndexFunc_string_string G (sem (cfg G) n) x0 x1) :=
 (fnV_at (C:=cfg G) (n:=n) (f:=229) (fn:=Tryz.f229) (c:=Tryz.f229.body.getD .skip) (by kernel_rfl) (by kernel_rfl) (by kernel_rfl) [x0,x1]).trans (by kernel_rfl)
noncomputable def ferry_port_Most (G:GV) (call:CV) (x0:V):M R :=
 (newV x0).bind fun aA =>
 (M.ret (V.int .i64 0)).bind fun aB =>
 (M.ret V.nili).bind fun aC =>
 (loadN 4 aA).bind fun aD =>
 (callV (cfg G) call 208 [aD]).bind fun aE =>
 (M.lift ((eqV .iface true aE V.nili).bind fun b => some (.bool !b))).bind fun aF =>
 (condV aF
 (((load1 (glob (cfg G) 1)).bind fun aG =>
 (M.ret (V.int .i64 0)).bind fun aH =>
 (M.ret aG).bind fun aI =>
 M.ret (Ex.ret,[V.tuple [aH,aI]])))
 ((loadN 4 aA).bind fun aJ =>
 (callV (cfg G) call 146 [aJ]).bind fun aK =>
 (condV aK
 ((M.ret (V.int .i64 2)).bind fun aL =>
 (M.ret V.nili).bind fun aM =>
 M.ret (Ex.ret,[V.tuple [aL,aM]]))
 ((M.lift (padd 2 aA)).bind fun aN =>
 (load1 aN).bind fun aO =>
 (M.lift (padd 1 aA)).bind fun aP =>
 (load1 aP).bind fun aQ =>
 (M.lift (arithV .add (V.int .i64 1) aQ)).bind fun aR =>
 (M.lift (arithV .mul aO aR)).bind fun aS =>
 (M.lift (arithV .add (V.int .i64 2) aS)).bind fun aT =>
 (M.ret aT).bind fun aU =>
 (M.ret V.nili).bind fun aV =>
 M.ret (Ex.ret,[V.tuple [aU,aV]])))))
theorem ferry_port_Most_eq (G:GV) (n:Nat) (x0:V):sem (cfg G) (n + 1) 246 [x0] = outV (ferry_port_Most G (sem (cfg G) n) x0) :=
 (fnV_at (C:=cfg G) (n:=n) (f:=246) (fn:=Tryz.f246) (c:=Tryz.f246.body.getD .skip) (by kernel_rfl) (by kernel_rfl) (by kernel_rfl) [x0]).trans (by kernel_rfl)
end Go.Fv.Tr
