/-
  A table of one's own in a block of its own: what the steps of a move do to it. By an AI agent; no person has read it.
-/
import Derived.Test.YtekncgjkocgioaaGreatDoorFvP34
import Derived.Test.YtekncgjkocgioaaGreatDoorFvP35
set_option linter.unusedVariables false
set_option linter.unusedSimpArgs false
set_option linter.unusedSectionVars false
/-! A table of one's own in a block of its own: what the steps of a move do to it. -/
namespace Go.Fv.Tr
open Go Go.Fv Go.Fv.Pl Go.Proofs
variable {G:GV}
structure InB (K H:Heap) (lt:Nat) (u:Tab):Prop where
 fl:H.floor = K.floor
 k0:K.floor ≤ K.next
 old:∀ k,k < K.next → H.blk k = K.blk k
 l2:K.next ≤ lt
 ln:lt < H.next
 tab:∃ x y z,H.blk lt = some ⟨3,[[x,y,z]]⟩ ∧ OwnTab H x y z u ∧ ∀ k,(loc x = some k ∨ loc y = some k ∨ loc z = some k) → K.next ≤ k ∧ k ≠ lt
 wp:∀ p ∈ u.ps,Wp p
variable {K H H':Heap} {lt:Nat} {u:Tab}
theorem InB.start {x y z:V} {t:Tab} (h:OwnTab H x y z t) (f:Frame K H (fun _ => False)) (hK:K.floor ≤ K.next)
  (hl:∀ k,(loc x = some k ∨ loc y = some k ∨ loc z = some k) → K.next ≤ k) (hw:∀ p ∈ t.ps,Wp p):InB K ((H.add ⟨3,[[.nils,.nils,.nils]]⟩).set H.next ⟨3,[[x,y,z]]⟩) H.next t:=by
 have fA:Frame H ((H.add ⟨3,[[.nils,.nils,.nils]]⟩).set H.next ⟨3,[[x,y,z]]⟩) (fun _ => False):=Frame.loc _ _
 have hn2:=f.next
 exact ⟨fA.floor.trans f.floor,hK,fun k hk => (fA.old k (by omega) id).trans (f.old k hk id),hn2,Nat.lt_succ_self _,⟨x,y,z,by rw [Heap.set_blk,if_pos rfl],h.frame fA fun _ _ g => g,
  fun k hk => ⟨hl k hk,by have:=h.lt hk; omega⟩⟩,hw⟩
theorem InB.low (h:InB K H lt u):H.floor ≤ lt:=by have:=h.fl; have:=h.k0; have:=h.l2; omega
theorem InB.lown (h:InB K H lt u):H.floor ≤ H.next:=by have:=h.low; have:=h.ln; omega
theorem InB.frame {p:Nat → Prop} (h:InB K H lt u) (f:Frame H H' p) (hp:∀ k,k < H.next → p k → K.next ≤ k ∧ k ≠ lt ∧ ∀ x y z,H.blk lt = some ⟨3,[[x,y,z]]⟩ → ¬ (loc x = some k ∨ loc y = some k ∨ loc z = some k)):InB K H' lt u:=by
 obtain ⟨x,y,z,hb,ho,hk⟩:=h.tab
 have hln:=h.ln
 have hl2:=h.l2
 refine ⟨f.floor.trans h.fl,h.k0,fun k hk' => (f.old k (by omega) fun g => ?_).trans (h.old k hk'),hl2,Nat.lt_of_lt_of_le hln f.next,⟨x,y,z,(f.old lt hln fun g => ?_).trans hb,ho.frame f fun l hl g => ?_,hk⟩,h.wp⟩
 ·have:=(hp k (by omega) g).1; omega
 ·exact (hp lt hln g).2.1 rfl
 ·exact (hp l (ho.lt hl) g).2.2 x y z hb hl
theorem InB.add (h:InB K H lt u) (b:Blk):InB K (H.add b) lt u:=h.frame (Frame.add b (fun _ => False)) fun _ _ g => g.elim
theorem InB.put {x y z:V} {v:Tab} (h:InB K H lt u) (o:OwnTab H x y z v) (hk:∀ k,(loc x = some k ∨ loc y = some k ∨ loc z = some k) → K.next ≤ k ∧ k ≠ lt) (hw:∀ p ∈ v.ps,Wp p) :
  InB K (H.set lt ⟨3,[[x,y,z]]⟩) lt v :=
 ⟨h.fl,h.k0,fun k hk' => (by rw [Heap.set_blk,if_neg (by have:=h.l2; omega)]; exact h.old k hk'),h.l2,h.ln,⟨x,y,z,by rw [Heap.set_blk,if_pos rfl],o.frame (Frame.set _ lt (p:=fun k => k = lt) rfl) fun l hl e => (hk l hl).2 e,hk⟩,hw⟩
theorem InB.leave (n:Nat) (h:InB K H lt u) (hq:u.q.length < big) (p:Int) :
  Run (callV (cfg G) (sem (cfg G) (n + 4)) 134 [.ptr lt 0 0,.int .i64 p]) H fun _ H' => InB K H' lt { u with q:=u.q.filter (· ≠ p) } ∧ H.next ≤ H'.next:=by
 obtain ⟨x,y,z,hb,ho,hk⟩:=h.tab
 have hln:=h.ln
 have hl2:=h.l2
 refine (leave_spec n (l:=lt) (s:=3) hb ho h.low h.ln (fun e => (hk lt (.inl e)).2 rfl) (fun e => (hk lt (.inr (.inl e))).2 rfl) (fun e => (hk lt (.inr (.inr e))).2 rfl) hq p).mono fun _ H' ⟨y',b',o',f,ly⟩ => ⟨?_,f.next⟩
 refine ⟨f.floor.trans h.fl,h.k0,fun k hk' => (f.old k (by omega) fun g => ?_).trans (h.old k hk'),hl2,Nat.lt_of_lt_of_le hln f.next,⟨x,y',z,b',o',fun j hj => ?_⟩,h.wp⟩
 ·rcases g with g | g
  ·omega
  ·have:=(hk k (.inr (.inl g))).1; omega
 ·rcases hj with g | g | g
  ·exact hk j (.inl g)
  ·exact hk j (.inr (.inl (ly j g)))
  ·exact hk j (.inr (.inr g))
theorem InB.wake (n:Nat) (h:InB K H lt u) (hok:TabOk u) {m:Int} {p:Pr} (hm:at? u.ps m = some p) (r1:Int) :
  Run (callV (cfg G) (sem (cfg G) (n + 4)) 140 [.ptr lt 0 0,.int .i64 m,.int .u32 r1]) H fun _ H' => InB K H' lt (u.wake m r1) ∧ H.next ≤ H'.next:=by
 obtain ⟨x,y,z,hb,ho,hk⟩:=h.tab
 have hlt:=at?_lt hm
 obtain ⟨k,rfl⟩:=Int.eq_ofNat_of_zero_le hlt.1
 have few:=((ROk_iff u).2 hok).few
 have hl2:=h.l2
 have hln:=h.ln
 refine (wake_spec n (l:=lt) (s:=3) (p:=k) hb ho h.low hln (fun e => (hk lt (.inl e)).2 rfl) (fun e => (hk lt (.inr (.inl e))).2 rfl) (fun e => (hk lt (.inr (.inr e))).2 rfl) (by omega) (by omega) h.wp (by omega) r1).mono fun _ H' ⟨y',z',b',o',f,ly,lz⟩ => ⟨?_,f.next⟩
 refine ⟨f.floor.trans h.fl,h.k0,fun k hk' => (f.old k (by omega) fun g => ?_).trans (h.old k hk'),hl2,Nat.lt_of_lt_of_le hln f.next,⟨x,y',z',b',o',fun j hj => ?_⟩,wake_wp h.wp _ _⟩
 ·rcases g with g | g | g | g
  ·omega
  ·have:=(hk k (.inl g)).1; omega
  ·have:=(hk k (.inr (.inl g))).1; omega
  ·have:=(hk k (.inr (.inr g))).1; omega
 ·rcases hj with g | g | g
  ·exact hk j (.inl g)
  ·rcases ly j g with g | g
   ·exact hk j (.inr (.inl g))
   ·omega
  ·exact hk j (.inr (.inr (lz j g)))
theorem setP_wp {ps:List Pr} (h:∀ p ∈ ps,Wp p) {n:Nat} (hn:n < ps.length) {f:Pr → Pr} (hf:Wp (f ps[n])):∀ p ∈ setP ps (n:Int) f,Wp p:=by
 intro p hp
 obtain ⟨i,hi⟩:=List.getElem?_of_mem hp
 simp only [setP,Int.toNat_natCast,List.getElem?_modify] at hi
 obtain ⟨q,hq,e⟩:=Option.map_eq_some_iff.1 hi
 split at e
 ·rename_i hc
  subst hc
  obtain ⟨_,e2⟩:=List.getElem?_eq_some_iff.1 hq
  subst e2
  subst e
  exact hf
 ·subst e; exact h q (List.mem_of_getElem? hq)
theorem InB.proc (h:InB K H lt u) {p:Nat} (hp:p < u.ps.length):∃ x y z lx b,H.blk lt = some ⟨3,[[x,y,z]]⟩ ∧ idxV 21 x (.int .i64 (p:Int)) = some (.ptr lx p 0) ∧ H.blk lx = some b ∧ b.rows[p]? = some (prRow u.ps[p]) ∧ p < b.rows.length ∧
  H.floor ≤ lx ∧ lx ≠ lt ∧ K.next ≤ lx ∧ lx < H.next ∧ ∀ f:Pr → Pr,Wp (f u.ps[p]) → InB K (H.set lx ⟨b.sz,b.rows.set p (prRow (f u.ps[p]))⟩) lt { u with ps:=setP u.ps (p:Int) f }:=by
 obtain ⟨x,y,z,hb,ho,hk⟩:=h.tab
 obtain ⟨lx,b,ex,hix,hbx,hrx,hfx⟩:=ho.p.idx (k:=.i64) (i:=p) (by simpa using hp)
 simp only [List.getElem_map] at hrx
 have hkx:=hk lx (.inl ex)
 have hlx:=ho.lt (.inl ex)
 refine ⟨x,y,z,lx,b,hb,hix,hbx,hrx,(List.getElem?_eq_some_iff.1 hrx).1,hfx,hkx.2,hkx.1,hlx,fun f hf => ?_⟩
 have fs:Frame H (H.set lx ⟨b.sz,b.rows.set p (prRow (f u.ps[p]))⟩) (fun k => k = lx):=Frame.set _ _ rfl
 have hx:=ho.p.put (i:=p) ex hbx (prRow (f u.ps[p]))
 rw [← setP_map hp (f:=f)] at hx
 exact ⟨h.fl,h.k0,fun k hk' => (by rw [Heap.set_blk,if_neg (by omega)]; exact h.old k hk'),h.l2,h.ln,
  ⟨x,y,z,by rw [Heap.set_blk,if_neg (fun e => hkx.2 e.symm)]; exact hb,⟨hx,ho.q.frame fs fun k h1 h2 => ho.pq _ ex (h2 ▸ h1),ho.s.frame fs fun k h1 h2 => ho.ps _ ex (h2 ▸ h1),ho.pq,ho.ps,ho.qs⟩,hk⟩,setP_wp h.wp hp hf⟩
theorem InB.app (h:InB K H lt u) (m:Int) (hlen:u.q.length ≤ 8):∃ x y z,H.blk lt = some ⟨3,[[x,y,z]]⟩ ∧
  Run (Fv.appV 1 8 y (.ref H.next 1 0 1 1 true)) (H.add ⟨1,[intRow m]⟩) fun y' H3 => H3.blk lt = some ⟨3,[[x,y,z]]⟩ ∧ y'.cells? = some [y'] ∧ H3.floor = H.floor ∧ H.next < H3.next ∧ InB K (H3.set lt ⟨3,[[x,y',z]]⟩) lt { u with q:=u.q ++ [m] }:=by
 obtain ⟨x,y,z,hb,ho,hk⟩:=h.tab
 have hln:=h.ln
 have hl2:=h.l2
 have hlow:=h.lown
 refine ⟨x,y,z,hb,?_⟩
 have fa:Frame H (H.add ⟨1,[intRow m]⟩) (fun _ => False):=Frame.add _ _
 refine (Run.app (items:=[intRow m]) (bytes:=8) (by show H.floor ≤ H.next + 1; omega) (ho.q.frame fa fun _ _ g => g) (by simp [itemsV,Heap.add_blk]) (by simp only [List.length_map,List.length_singleton]; unfold room; omega)).mono fun y' H3 ⟨oy,f3,l3⟩ => ?_
 have f4:Frame H H3 (fun k => loc y = some k):=fa.trans f3 (fun _ _ g => g.elim) (fun _ _ g => g)
 have ly:∀ k,loc y' = some k → loc y = some k ∨ H.next + 1 ≤ k:=l3
 have hyl:∀ k,loc y = some k → k < H.next:=fun k hk => ho.lt (.inr (.inl hk))
 have hn3:H.next + 1 ≤ H3.next:=f3.next
 have hb3:H3.blk lt = some ⟨3,[[x,y,z]]⟩:=(f4.old lt hln fun g => (hk lt (.inr (.inl g))).2 rfl).trans hb
 refine ⟨hb3,oy.cells,f4.floor,hn3,?_⟩
 have o3:OwnTab H3 x y' z { u with q:=u.q ++ [m] }:=by
  refine ⟨ho.p.frame f4 fun l h1 h2 => ho.pq l h1 h2,?_,ho.s.frame f4 fun l h1 h2 => ho.qs l h2 h1,fun l h1 h2 => ?_,ho.ps,fun l h1 h2 => ?_⟩
  ·have e:(u.q ++ [m]).map intRow = u.q.map intRow ++ [intRow m]:=by rw [List.map_append]; rfl
   rw [e]; exact oy
  ·rcases ly l h2 with g | g
   ·exact ho.pq l h1 g
   ·have:=ho.lt (.inl h1); omega
  ·rcases ly l h1 with g | g
   ·exact ho.qs l g h2
   ·have:=ho.lt (.inr (.inr h2)); omega
 have hk':∀ k,(loc x = some k ∨ loc y' = some k ∨ loc z = some k) → K.next ≤ k ∧ k ≠ lt:=fun k g => by
  rcases g with g | g | g
  ·exact hk k (.inl g)
  ·rcases ly k g with g | g
   ·exact hk k (.inr (.inl g))
   ·omega
  ·exact hk k (.inr (.inr g))
 refine ⟨f4.floor.trans h.fl,h.k0,fun k hk2 => ?_,hl2,by show lt < H3.next; omega,⟨x,y',z,by rw [Heap.set_blk,if_pos rfl],o3.frame (Frame.set _ lt (p:=fun k => k = lt) rfl) fun l hl e => (hk' l hl).2 e,hk'⟩,h.wp⟩
 rw [Heap.set_blk,if_neg (by omega)]
 exact (f4.old k (by omega) fun g => by have:=(hk k (.inr (.inl g))).1; omega).trans (h.old k hk2)
theorem InB.show (h:InB K H lt u) (hok:TabOk u):∃ x y z,H.blk lt = some ⟨3,[[x,y,z]]⟩ ∧ ∀ K':Heap,(∀ k b,K.next ≤ k → k ≠ lt → H.blk k = some b → K'.blk k = some b) → ∀ ok,∃ a b c,IsTab a b c u ∧ thaw2 ok K' (.agg [x,y,z]) = some (.agg [a,b,c]):=by
 obtain ⟨x,y,z,hb,ho,hk⟩:=h.tab
 refine ⟨x,y,z,hb,fun K' hK => ?_⟩
 have n1:∀ {v:V} {sz:Nat} {rows:List (List V)},Own H v sz rows → (∀ k,loc v = some k → K.next ≤ k ∧ k ≠ lt) → Own ⟨K'.blk,H.next,H.floor⟩ v sz rows:=fun {v sz rows} o hv => by
  rcases o with o | ⟨l,n,c,ex,b,rfl,h1,h2,h3,h4⟩
  ·exact .inl o
  ·exact .inr ⟨l,n,c,ex,b,rfl,hK _ _ (hv _ rfl).1 (hv _ rfl).2 h1,h2,h3,h4⟩
 have o':OwnTab ⟨K'.blk,H.next,H.floor⟩ x y z u:=⟨n1 ho.p fun k g => hk k (.inl g),n1 ho.q fun k g => hk k (.inr (.inl g)),n1 ho.s fun k g => hk k (.inr (.inr g)),ho.pq,ho.ps,ho.qs⟩
 have e2:∀ ok (v:V),thaw2 ok K' v = thaw2 ok ⟨K'.blk,H.next,H.floor⟩ v:=fun ok v => (thaw2_eq (H:=⟨K'.blk,H.next,H.floor⟩) (H':=K') (fun _ => rfl) _)
 intro ok
 obtain ⟨a,b,c,q1,q2⟩:=thaw2_tab o' h.wp hok ok
 exact ⟨a,b,c,q2,by rw [e2]; exact q1⟩
end Go.Fv.Tr
namespace Go.Fv
open Go
def lv (l:List V):List Nat:=l.filterMap loc
def hd (r:List V):Option Nat:=(r.head?).bind loc
def lr (rows:List (List V)):List Nat:=rows.filterMap hd
theorem Own.loc_lt {H:Heap} {x:V} {sz:Nat} {rows:List (List V)} (h:Own H x sz rows) {l:Nat} (hl:loc x = some l):l < H.next:=by
 rcases h with ⟨rfl | rfl,_⟩ | ⟨l',n,c,ex,b,rfl,h1,h2,h3,h4⟩
 ·cases hl
 ·cases hl
 ·cases hl; exact h3
end Go.Fv
namespace Go.Fv.Tr
open Go Go.Fv Go.Fv.Pl Go.Proofs
variable {G:GV}
namespace Sy
variable {l m:List V} {s:St} {p:Pn} {x y z a b c d x' y' z' u v w g:V} {pr:List (List V)} {k:List V} {H H':Heap}
def PoM (H:Heap) (row:List V) (p:Po):Prop:=∃ m,row = [m,i64 p.age] ∧ Own H m 1 (p.msgs.map stR) ∧ p.msgs.length ≤ big
structure PsM (H:Heap) (pr:List (List V)) (ps:List Po):Prop where
 len:pr.length = ps.length
 row:∀ (j:Nat) (hj:j < pr.length),PoM H pr[j] (ps[j]'(by rw [← len]; exact hj))
theorem PsM.nil:PsM H [] []:=⟨rfl,fun j hj => absurd hj (by simp)⟩
theorem PsM.cons {r:List V} {q:Po} {ps:List Po} (h:PoM H r q) (t:PsM H pr ps):PsM H (r :: pr) (q :: ps) :=
 ⟨by simp [t.len],fun j hj => by
  cases j with
  | zero => exact h
  | succ j => exact t.row j (by simpa using hj)⟩
theorem PsM.head {r:List V} {q:Po} {ps:List Po} (t:PsM H (r :: pr) (q :: ps)):PoM H r q:=t.row 0 (by simp)
theorem PsM.tail {r:List V} {q:Po} {ps:List Po} (t:PsM H (r :: pr) (q :: ps)):PsM H pr ps :=
 ⟨by have:=t.len; simpa using this,fun j hj => t.row (j + 1) (by simpa using hj)⟩
theorem PoM.frame {row:List V} {q:Po} {P:Nat → Prop} (h:PoM H row q) (f:Frame H H' P) (hp:∀ l,hd row = some l → ¬ P l):PoM H' row q:=by
 obtain ⟨m,rfl,ho,hl⟩:=h
 exact ⟨m,rfl,ho.frame f fun l hl => hp l hl,hl⟩
theorem PsM.frame {ps:List Po} {P:Nat → Prop} (h:PsM H pr ps) (f:Frame H H' P) (hp:∀ l ∈ lr pr,¬ P l):PsM H' pr ps :=
 ⟨h.len,fun j hj => (h.row j hj).frame f fun l hl => hp l (List.mem_filterMap.2 ⟨_,List.getElem_mem hj,hl⟩)⟩
theorem PsM.lt {ps:List Po} (h:PsM H pr ps) {l:Nat} (hl:l ∈ lr pr):l < H.next:=by
 obtain ⟨r,hr,e⟩:=List.mem_filterMap.1 hl
 obtain ⟨j,hj,rfl⟩:=List.mem_iff_getElem.1 hr
 obtain ⟨m,er,ho,_⟩:=h.row j hj
 rw [er] at e
 exact ho.loc_lt e
theorem PsM.put {ps : List Po} (h : PsM H pr ps) {j : Nat} {r : List V} {q : Po} (hr : PoM H r q) : PsM H (pr.set j r) (ps.set j q) :=
  ⟨by simp [h.len], fun i hi => by
    rw [List.getElem_set]
    have e:(ps.set j q)[i]'(by simpa [← h.len] using hi) = if j = i then q else ps[i]'(by simpa [← h.len] using hi):=List.getElem_set _
    by_cases hij:j = i
    · subst hij
      simp only [if_true]
      rw [List.getElem_set_self]
      exact hr
    · simp only [if_neg hij]
      rw [List.getElem_set_ne hij]
      exact h.row i _⟩
theorem thawD_flat {d:Nat} {ok:Bool} {v:V} (h:v.flat = true):thawD d ok H v = some v:=by
 cases d with
 | zero => simp [thawD,h]
 | succ d => cases v <;> simp_all [thawD,V.flat]
theorem mapRows_flat {d : Nat} {ok : Bool} : ∀ {rows : List (List V)}, flatRows rows = true → mapRows (thawD d ok H) rows = some rows
  | [],_ => rfl
  | r :: rows, h => by
    have h' : r.all V.flat = true ∧ flatRows rows = true := by
      unfold flatRows at h ⊢
      simpa using h
    have one : r.mapM (thawD d ok H) = some r := by
      have:=h'.1
      clear h h'
      induction r with
      | nil => rfl
      | cons a r ih =>
        simp only [List.all_cons,Bool.and_eq_true] at this
        rw [List.mapM_cons,thawD_flat this.1,ih this.2]
        rfl
    have ih:=mapRows_flat (d:=d) (ok:=ok) h'.2
    unfold mapRows at ih ⊢
    rw [List.mapM_cons,one,ih]
    rfl
theorem Own.thawD {x:V} {sz:Nat} {rows:List (List V)} (h:Own H x sz rows) (hf:flatRows rows = true) (d:Nat) (ok:Bool):∃ y,Fv.thawD (d + 1) ok H x = some y ∧ Sls y sz rows:=by
 rcases h with ⟨rfl | rfl,rfl⟩ | ⟨l,n,c,ex,b,rfl,h1,h2,h3,h4,h5,rfl⟩
 ·exact ⟨.nils,rfl,Sls.nils _⟩
 ·exact ⟨.emp,rfl,Sls.emp _⟩
 ·refine ⟨.imm sz (b.rows.take n),?_,Sls.imm _ _⟩
  have:n ≤ b.rows.length:=by omega
  simp only [Fv.thawD,h1,Option.bind_some,List.drop_zero,Nat.zero_add,if_pos this,mapRows_flat hf]
theorem flat_strs (l:List ByteArray):flatRows (l.map stR) = true:=by simp [flatRows,stR,V.flat]
theorem thawPs {d : Nat} {ok : Bool} : ∀ {pr : List (List V)} {ps : List Po}, PsM H pr ps → ∃ pr', mapRows (Fv.thawD (d + 1) ok H) pr = some pr' ∧ ∃ e : pr'.length = ps.length, ∀ (j : Nat) (hj : j < pr'.length), PoS pr'[j] (ps[j]'(by rw [← e]; exact hj))
  | [],[],h => ⟨[],rfl,rfl,fun j hj => absurd hj (by simp)⟩
  | [],q :: ps,h => by have:=h.len; simp at this
  | r :: pr,[],h => by have:=h.len; simp at this
  | r :: pr, q :: ps, h => by
    obtain ⟨pr',h1,e,h2⟩:=thawPs (d:=d) (ok:=ok) h.tail
    obtain ⟨m,rfl,ho,hl⟩:=h.head
    obtain ⟨m',t1,t2⟩:=Own.thawD ho (flat_strs _) d ok
    refine ⟨[m',i64 q.age] :: pr',?_,by simp [e],fun j hj => ?_⟩
    · unfold mapRows at h1 ⊢
      rw [List.mapM_cons,h1]
      have : [m, i64 q.age].mapM (Fv.thawD (d + 1) ok H) = some [m', i64 q.age] := by
        rw [List.mapM_cons,t1,List.mapM_cons,thawD_flat (show (i64 q.age).flat = true from rfl)]
        rfl
      rw [this]
      rfl
    · cases j with
      | zero => exact ⟨m',rfl,t2,hl⟩
      | succ j => exact h2 j (by simpa using hj)
theorem flatPs:∀ {pr:List (List V)} {ps:List Po},PsM H pr ps → flatRows pr = true → ∃ e:pr.length = ps.length,∀ (j:Nat) (hj:j < pr.length),PoS pr[j] (ps[j]'(by rw [← e]; exact hj)):=fun {pr ps} h hf => ⟨h.len,fun j hj => by
  obtain ⟨m,er,ho,hl⟩:=h.row j hj
  have:(pr[j]).all V.flat = true:=List.all_eq_true.1 hf _ (List.getElem_mem hj)
  rw [er] at this ⊢
  rcases ho with ⟨h1,h2⟩ | ⟨l',n,c,ex,b,rfl,_⟩
  ·exact ⟨m,rfl,.inr ⟨h2,h1⟩,hl⟩
  ·simp [V.flat] at this⟩
theorem thawD_refS {d l' sz n c:Nat} {ok ex:Bool} {b:Blk} {pr':List (List V)} (h1:H.blk l' = some b) (hn:n ≤ b.rows.length) (q1:mapRows (Fv.thawD d ok H) (b.rows.take n) = some pr'):Fv.thawD (d + 1) ok H (.ref l' sz 0 n c ex) = some (.imm sz pr'):=by
 simp only [Fv.thawD,h1,Option.bind_some,List.drop_zero,Nat.zero_add,if_pos hn,q1]
theorem Own.thawPorts {ps:List Po} (h:Own H w 2 pr) (hp:PsM H pr ps):∃ w' pr',Fv.thaw true H w = some w' ∧ Sls w' 2 pr' ∧ ∃ e:pr'.length = ps.length,∀ (j:Nat) (hj:j < pr'.length),PoS pr'[j] (ps[j]'(by rw [← e]; exact hj)):=by
 rcases h with ⟨rfl | rfl,rfl⟩ | ⟨l',n,c,ex,b,rfl,h1,h2,h3,h4,h5,rfl⟩
 ·obtain ⟨e,q⟩:=flatPs hp rfl
  exact ⟨.nils,[],rfl,Sls.nils _,e,q⟩
 ·obtain ⟨e,q⟩:=flatPs hp rfl
  exact ⟨.emp,[],rfl,Sls.emp _,e,q⟩
 ·have hn:n ≤ b.rows.length:=by omega
  by_cases hf:flatRows (b.rows.take n) = true
  ·obtain ⟨e,q⟩:=flatPs hp hf
   refine ⟨.imm 2 (b.rows.take n),b.rows.take n,?_,Sls.imm _ _,e,q⟩
   simp [Fv.thaw,h1,hn,hf]
  ·obtain ⟨pr',q1,e,q2⟩:=thawPs (d:=2) (ok:=true) hp
   refine ⟨.imm 2 pr',pr',?_,Sls.imm _ _,e,q2⟩
   have q3:=thawD_refS (sz:=2) (c:=c) (ex:=ex) h1 hn q1
   simp only [Fv.thaw,h1,Option.bind_some,List.drop_zero,Nat.zero_add,hf,and_false,if_false,Bool.false_eq_true]
   exact q3
structure MS (H:Heap) (l:List V) (s:St) (x y z u v w g:V) (pr:List (List V)):Prop where
 eq:l = [i64 s.id,i64 s.fr,i64 s.ep,x,y,z,u,v,w,g]
 ps:Own H x 21 (s.t.ps.map prRow)
 q:Own H y 1 (s.t.q.map intRow)
 ts:Own H z 2 (s.t.ts.map tmRow)
 up:Own H u 1 (s.up.map boR)
 sems:Own H v 1 (s.sems.map intRow)
 ports:Own H w 2 pr
 pages:Own H g 66 (s.pages.map paR)
 row:PsM H pr s.ports
 nd:(lv [x,y,z,u,v,w,g] ++ lr pr).Nodup
structure StB (s:St):Prop where
 wp:∀ p ∈ s.t.ps,Wp p
 t:s.t.ps.length * 104 ≤ room ∧ s.t.q.length * 8 ≤ room ∧ s.t.ts.length * 16 ≤ room
 up:s.up.length ≤ room
 sems:s.sems.length * 8 ≤ room
 ports:s.ports.length * 32 ≤ room
 pages:s.pages.length * 80 ≤ room
 msgs:∀ p ∈ s.ports,p.msgs.length * 16 ≤ room
 data:∀ p ∈ s.pages,p.data.length = 64
theorem room_big:room ≤ big:=by decide
theorem flat_prs (l:List Pr):flatRows (l.map prRow) = true:=by
 unfold flatRows
 rw [List.all_eq_true]
 intro r hr
 obtain ⟨p,_,rfl⟩:=List.mem_map.1 hr
 simp [prRow,V.flat]
theorem flat_tms (l:List Tm):flatRows (l.map tmRow) = true:=by simp [flatRows,tmRow,V.flat]
theorem flat_bos (l:List Bool):flatRows (l.map boR) = true:=by simp [flatRows,boR,V.flat]
theorem flat_pas (l:List Pa):flatRows (l.map paR) = true:=by simp [flatRows,paR,V.flat]
theorem MS.thaw (h:MS H l s x y z u v w g pr) (hb:StB s):∃ l' x' y' z' u' v' w' g' pr',thawV true H (.agg l) = some (.agg l') ∧ StS l' s x' y' z' u' v' w' g' pr':=by
 obtain ⟨x',e1,s1⟩:=h.ps.thaw (flat_prs _) true
 obtain ⟨y',e2,s2⟩:=h.q.thaw (flat_ints _) true
 obtain ⟨z',e3,s3⟩:=h.ts.thaw (flat_tms _) true
 obtain ⟨u',e4,s4⟩:=h.up.thaw (flat_bos _) true
 obtain ⟨v',e5,s5⟩:=h.sems.thaw (flat_ints _) true
 obtain ⟨w',pr',e6,s6,el,s7⟩:=Own.thawPorts h.ports h.row
 obtain ⟨g',e7,s8⟩:=h.pages.thaw (flat_pas _) true
 have hr:=room_big
 refine ⟨_,x',y',z',u',v',w',g',pr',?_,rfl,⟨s1,s2,s3,hb.wp,by have:=hb.t.1; omega,by have:=hb.t.2.1; omega,by have:=hb.t.2.2; omega⟩,s4,s5,s6,s8,el,s7,⟨by have:=hb.up; omega,by have:=hb.sems; omega,by have:=hb.ports; omega,by have:=hb.pages; omega⟩,hb.data⟩
 rw [h.eq]
 have i:∀ k:Int,Fv.thaw true H (i64 k) = some (i64 k):=fun k => rfl
 simp only [thawV,List.mapM_cons,List.mapM_nil,i,e1,e2,e3,e4,e5,e6,e7]
 rfl
def PoG (row:List V) (p:Po):Prop:=∃ m,row = [m,i64 p.age] ∧ ((m = .nils ∨ m = .emp) ∧ p.msgs = [] ∨ m = .deep 1 (p.msgs.map stR)) ∧ p.msgs.length ≤ big
inductive PsG:List (List V) → List Po → Prop where
 | nil:PsG [] []
 | cons {r:List V} {q:Po} {rows:List (List V)} {ps:List Po} (h:PoG r q) (t:PsG rows ps):PsG (r :: rows) (q :: ps)
theorem giveD_flat {d:Nat} {v:V} {ls:List Nat} (h:v.flat = true):giveD d H v ls = some (v,ls):=by
 cases d with
 | zero => simp [giveD,h]
 | succ d => cases v <;> simp_all [giveD,V.flat]
theorem givesRows_flat {d : Nat} {ls : List Nat} : ∀ {rows : List (List V)}, flatRows rows = true → givesRows (giveD d H) rows ls = some (rows, ls)
  | [],_ => rfl
  | r :: rows, h => by
    have h' : r.all V.flat = true ∧ flatRows rows = true := by
      unfold flatRows at h ⊢
      simpa using h
    have one : givesD (giveD d H) r ls = some (r, ls) := by
      have:=h'.1
      clear h h'
      induction r with
      | nil => rfl
      | cons a r ih =>
        simp only [List.all_cons,Bool.and_eq_true] at this
        simp only [givesD,giveD_flat this.1,Option.bind_some,ih this.2]
    simp only [givesRows,one,Option.bind_some,givesRows_flat h'.2]
theorem nil_of_map {α β:Type} {f:α → β} {l:List α} (h:l.map f = []):l = []:=by cases l <;> simp_all
theorem givePs {d : Nat} : ∀ {pr : List (List V)} {ps : List Po} {ls : List Nat}, PsM H pr ps → (lr pr).Nodup → (∀ l ∈ lr pr, l ∉ ls) →
    ∃ rows ls',givesRows (giveD (d + 1) H) pr ls = some (rows,ls') ∧ PsG rows ps ∧ ∀ l,l ∈ ls' → l ∈ ls ∨ l ∈ lr pr
  | [],[],ls,h,_,_ => ⟨[],ls,rfl,.nil,fun l h => .inl h⟩
  | [],q :: ps,ls,h,_,_ => by have:=h.len; simp at this
  | r :: pr,[],ls,h,_,_ => by have:=h.len; simp at this
  | r :: pr, q :: ps, ls, h, hnd, hd' => by
    obtain ⟨m,rfl,ho,hl⟩:=h.head
    rcases ho with ⟨h1,h2⟩ | ⟨l',n,c,ex,b,rfl,h1,h2,h3,h4,h5,h6⟩
    · have hm:hd [m,i64 q.age] = none:=by rcases h1 with rfl | rfl <;> rfl
      have elr:lr ([m,i64 q.age] :: pr) = lr pr:=by simp [lr,hm]
      rw [elr] at hnd hd'
      obtain ⟨rows,ls',e1,e2,e3⟩:=givePs (d:=d) h.tail hnd hd'
      have hf:m.flat = true:=by rcases h1 with rfl | rfl <;> rfl
      refine ⟨[m,i64 q.age] :: rows,ls',?_,.cons ⟨m,rfl,.inl ⟨h1,nil_of_map h2⟩,hl⟩ e2,fun l h => by rw [elr]; exact e3 l h⟩
      simp only [givesRows,givesD,giveD_flat hf,giveD_flat (show (i64 q.age).flat = true from rfl),Option.bind_some,e1]
    · have elr : lr ([.ref l' 1 0 n c ex, i64 q.age] :: pr) = l' :: lr pr := by simp [lr, hd, loc]
      rw [elr] at hnd hd'
      rw [List.nodup_cons] at hnd
      obtain ⟨rows, ls', e1, e2, e3⟩ := givePs (d := d) (ls := l' :: ls) h.tail hnd.2 fun l hl h => by
        rcases List.mem_cons.1 h with rfl | h
        · exact hnd.1 hl
        · exact hd' l (List.mem_cons_of_mem _ hl) h
      refine ⟨[.deep 1 (q.msgs.map stR), i64 q.age] :: rows, ls', ?_, .cons ⟨_, rfl, .inr rfl, hl⟩ e2, fun l h => by
        rw [elr]
        rcases e3 l h with h | h
        · rcases List.mem_cons.1 h with rfl | h
          · exact .inr (List.mem_cons_self ..)
          · exact .inl h
        · exact .inr (List.mem_cons_of_mem _ h)⟩
      have hn:n ≤ b.rows.length:=by omega
      have g1 : giveD (d + 1) H (.ref l' 1 0 n c ex) ls = some (.deep 1 (q.msgs.map stR), l' :: ls) := by
        have:=givesRows_flat (H:=H) (d:=d) (ls:=ls) (flat_strs q.msgs)
        simp only [giveD,h1,Option.bind_some,List.drop_zero,Nat.zero_add,if_pos hn,h6,this,if_pos (hd' l' (List.mem_cons_self ..))]
      simp only [givesRows,givesD,g1,giveD_flat (show (i64 q.age).flat = true from rfl),Option.bind_some,e1]
def WG (g:V) (ps:List Po):Prop:=((g = .nils ∨ g = .emp) ∧ ps = []) ∨ ∃ rows,(g = .own 2 rows ∨ g = .deep 2 rows) ∧ PsG rows ps ∧ (g = .own 2 rows → flatRows rows = true)
theorem psG_flat : ∀ {pr : List (List V)} {ps : List Po}, PsM H pr ps → flatRows pr = true → PsG pr ps
  | [],[],_,_ => .nil
  | [],q :: ps,h,_ => by have:=h.len; simp at this
  | r :: pr,[],h,_ => by have:=h.len; simp at this
  | r :: pr, q :: ps, h, hf => by
    have hf' : r.all V.flat = true ∧ flatRows pr = true := by
      unfold flatRows at hf ⊢
      simpa using hf
    obtain ⟨m,rfl,ho,hl⟩:=h.head
    refine .cons ⟨m,rfl,.inl ?_,hl⟩ (psG_flat h.tail hf'.2)
    rcases ho with ⟨h1,h2⟩ | ⟨l',n,c,ex,b,rfl,_⟩
    · exact ⟨h1,nil_of_map h2⟩
    · have:=hf'.1
      simp [V.flat] at this
theorem Own.givePorts {ps:List Po} {ls:List Nat} (h:Own H w 2 pr) (hp:PsM H pr ps) (hnd:(lr pr).Nodup) (hd':∀ l ∈ lr pr,l ∉ ls) (hw:∀ l,loc w = some l → l ∉ ls ∧ l ∉ lr pr) :
  ∃ g' ls',give H w ls = some (g',ls') ∧ WG g' ps ∧ ∀ l,l ∈ ls' → l ∈ ls ∨ l ∈ lr pr ∨ loc w = some l:=by
 rcases h with ⟨rfl | rfl,rfl⟩ | ⟨l',n,c,ex,b,rfl,h1,h2,h3,h4,h5,rfl⟩
 ·have:ps = []:=by have:=hp.len; cases ps <;> simp_all
  exact ⟨.nils,ls,rfl,.inl ⟨.inl rfl,this⟩,fun l h => .inl h⟩
 ·have:ps = []:=by have:=hp.len; cases ps <;> simp_all
  exact ⟨.emp,ls,rfl,.inl ⟨.inr rfl,this⟩,fun l h => .inl h⟩
 ·have hn:n ≤ b.rows.length:=by omega
  have hl:=hw l' rfl
  by_cases hf:flatRows (b.rows.take n) = true
  ·refine ⟨.own 2 (b.rows.take n),l' :: ls,?_,.inr ⟨_,.inl rfl,psG_flat hp hf,fun _ => hf⟩,fun l h => ?_⟩
   ·simp only [give,h1,Option.bind_some,List.drop_zero,Nat.zero_add]
    rw [if_pos ⟨hn,hf,hl.1⟩]
   ·rcases List.mem_cons.1 h with rfl | h
    ·exact .inr (.inr rfl)
    ·exact .inl h
  ·obtain ⟨rows,ls',e1,e2,e3⟩:=givePs (d:=2) (ls:=ls) hp hnd hd'
   have hl':l' ∉ ls':=fun h => by
    rcases e3 l' h with h | h
    ·exact hl.1 h
    ·exact hl.2 h
   refine ⟨.deep 2 rows,l' :: ls',?_,.inr ⟨_,.inr rfl,e2,fun h => by cases h⟩,fun l h => ?_⟩
   ·have q3:giveD (3 + 1) H (.ref l' 2 0 n c ex) ls = some (.deep 2 rows,l' :: ls'):=by
     have e1':givesRows (giveD 3 H) (b.rows.take n) ls = some (rows,ls'):=e1
     generalize 3 = d3 at e1' ⊢
     simp only [giveD,h1,Option.bind_some,List.drop_zero,Nat.zero_add,if_pos hn,e1',if_pos hl']
    simp only [give,h1,Option.bind_some,List.drop_zero,Nat.zero_add]
    rw [if_neg (fun g => hf g.2.1)]
    exact q3
   ·rcases List.mem_cons.1 h with rfl | h
    ·exact .inr (.inr rfl)
    ·rcases e3 l h with h | h
     ·exact .inl h
     ·exact .inr (.inl h)
end Sy
end Go.Fv.Tr
