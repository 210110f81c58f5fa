/-
  What the functions of the layer 9 answer: Best. By an AI agent; no person has read it.
-/
import Derived.Test.YtekncgjkocgioaaGreatDoorFvP25
set_option linter.unusedVariables false
set_option linter.unusedSimpArgs false
set_option linter.unusedSectionVars false
/-! What the functions of the layer 9 answer: Best. -/
namespace Go.Fv.Tr
open Go Go.Fv Go.Fv.Pl Go.Proofs
variable {G:GV}
end Go.Fv.Tr
namespace Go.Fv.Tr
open Go Go.Fv Go.Fv.Pl Go.Proofs
variable {G:GV}
def ShT (H:Heap) (a b c:V) (u:Tab):Prop:=OwnTab H a b c u ∨ IsTab a b c u
theorem thawD_hb {ok : Bool} {H H' : Heap} (hb : ∀ l, H'.blk l = H.blk l) : ∀ (d : Nat) (v : V), thawD d ok H' v = thawD d ok H v
  | 0,v => rfl
  | d + 1, v => by
    have e:(thawD d ok H':V → Option V) = thawD d ok H:=funext (thawD_hb hb d)
    cases v <;> simp only [thawD,hb,e]
theorem mapM_eq {ok:Bool} {H H':Heap} (hb:∀ l,H'.blk l = H.blk l) (v:V):thaw ok H' v = thaw ok H v:=by
 cases v with
 | iface t w => cases w <;> simp only [thaw,hb]
 | _ => simp only [thaw,hb,thawD_hb hb]
theorem thaw2_eq {ok:Bool} {H H':Heap} (hb:∀ l,H'.blk l = H.blk l) (v:V):thaw2 ok H' v = thaw2 ok H v:=by
 have:(thaw ok H':V → Option V) = thaw ok H:=funext fun v => mapM_eq hb v
 unfold thaw2
 rw [this]
theorem ShT.thaw {H K:Heap} {a b c:V} {u:Tab} (h:ShT H a b c u) (hw:∀ p ∈ u.ps,Wp p) (hb:TabOk u) (hK:∀ k B,H.blk k = some B → k < H.next → K.blk k = some B) :
  ∃ a' b' c',thaw2 true K (.agg [a,b,c]) = some (.agg [a',b',c']) ∧ IsTab a' b' c' u:=by
 rcases h with h | h
 ·have one:∀ {v:V} {sz:Nat} {rows:List (List V)},Own H v sz rows → Own ⟨K.blk,H.next,H.floor⟩ v sz rows:=fun {v sz rows} o => by
   rcases o with o | ⟨l,n,c,ex,b,rfl,h1,h2,h3,h4⟩
   ·exact .inl o
   ·exact .inr ⟨l,n,c,ex,b,rfl,hK _ _ h1 h3,h2,h3,h4⟩
  obtain ⟨a',b',c',q1,q2⟩:=thaw2_tab (H:=⟨K.blk,H.next,H.floor⟩) ⟨one h.p,one h.q,one h.s,h.pq,h.ps,h.qs⟩ hw hb true
  exact ⟨a',b',c',(thaw2_eq (H:=⟨K.blk,H.next,H.floor⟩) (H':=K) (fun _ => rfl) _).trans q1,q2⟩
 ·refine ⟨a,b,c,?_,h⟩
  have e:[a,b,c].mapM (Fv.thaw true K) = some [a,b,c]:=by
   have t1:∀ {x:V} {sz:Nat} {rows:List (List V)},Sls x sz rows → Fv.thaw true K x = some x:=fun {x sz rows} h => by
    rcases h with rfl | ⟨_,rfl | rfl⟩ <;> simp [Fv.thaw,V.flat,V.closed]
   simp [t1 h.p,t1 h.q,t1 h.s]
  simp only [thaw2,e]; rfl
theorem ShT.p {H:Heap} {a b c:V} {u:Tab} (h:ShT H a b c u):Own H a 21 (u.ps.map prRow) ∨ Sls a 21 (u.ps.map prRow):=h.imp (·.p) (·.p)
theorem ShT.s {H:Heap} {a b c:V} {u:Tab} (h:ShT H a b c u):Own H c 2 (u.ts.map tmRow) ∨ Sls c 2 (u.ts.map tmRow):=h.imp (·.s) (·.s)
theorem ShT.frame {H H':Heap} {a b c:V} {u:Tab} {p:Nat → Prop} (h:ShT H a b c u) (f:Frame H H' p) (hp:OwnTab H a b c u → ∀ l,loc a = some l ∨ loc b = some l ∨ loc c = some l → ¬ p l):ShT H' a b c u:=h.imp (fun g => g.frame f (hp g)) id
theorem sls_loc {x:V} {sz:Nat} {rows:List (List V)} (h:Sls x sz rows):loc x = none:=by
 rcases h with rfl | ⟨_,rfl | rfl⟩ <;> rfl
theorem is_loc {a b c:V} {u:Tab} (h:IsTab a b c u) (k:Nat):¬ (loc a = some k ∨ loc b = some k ∨ loc c = some k):=by
 rw [sls_loc h.p,sls_loc h.q,sls_loc h.s]; simp
structure InS (H:Heap) (lt:Nat) (u:Tab):Prop where
 fl:H.floor = 0
 b1:H.blk 1 = some ⟨3,[[.nils,.nils,.nils]]⟩
 l2:2 ≤ lt
 ln:lt < H.next
 tab:∃ a b c,H.blk lt = some ⟨3,[[a,b,c]]⟩ ∧ ShT H a b c u ∧ ∀ k,(loc a = some k ∨ loc b = some k ∨ loc c = some k) → 2 ≤ k ∧ k ≠ lt ∧ k < H.next
 wp:∀ p ∈ u.ps,Wp p
theorem InS.of {H:Heap} {lt:Nat} {u:Tab} (h:InT H lt u):InS H lt u:=by
 obtain ⟨a,b,c,h1,h2,h3⟩:=h.tab
 exact ⟨h.fl,h.b1,h.l2,h.ln,⟨a,b,c,h1,.inl h2,fun k hk => ⟨(h3 k hk).1,(h3 k hk).2,h2.lt hk⟩⟩,h.wp⟩
theorem InS.frame {H H':Heap} {lt:Nat} {u:Tab} {p:Nat → Prop} (h:InS H lt u) (f:Frame H H' p) (h1:¬ p 1) (h2:¬ p lt) (h3:∀ a b c,H.blk lt = some ⟨3,[[a,b,c]]⟩ → ∀ k,(loc a = some k ∨ loc b = some k ∨ loc c = some k) → ¬ p k):InS H' lt u:=by
 obtain ⟨a,b,c,g1,g2,g3⟩:=h.tab
 have:=h.l2
 have:=h.ln
 exact ⟨f.floor.trans h.fl,(f.old 1 (by omega) h1).trans h.b1,h.l2,Nat.lt_of_lt_of_le h.ln f.next,⟨a,b,c,(f.old lt h.ln h2).trans g1,g2.frame f fun _ => h3 a b c g1,fun k hk => ⟨(g3 k hk).1,(g3 k hk).2.1,Nat.lt_of_lt_of_le (g3 k hk).2.2 f.next⟩⟩,h.wp⟩
theorem InS.put {H:Heap} {lt:Nat} {u u':Tab} {a b c:V} (h:InS H lt u) (ht:IsTab a b c u') (hw:∀ p ∈ u'.ps,Wp p):InS (H.set lt ⟨3,[[a,b,c]]⟩) lt u':=by
 have:=h.l2
 exact ⟨h.fl,by rw [Heap.set_blk,if_neg (by omega)]; exact h.b1,h.l2,h.ln,⟨a,b,c,by rw [Heap.set_blk,if_pos rfl],.inr ht,fun k hk => absurd hk (is_loc ht k)⟩,hw⟩
end Go.Fv.Tr
namespace Go.Fv.Tr
open Go Go.Fv Go.Fv.Pl Go.Proofs
variable {G:GV}
end Go.Fv.Tr
namespace Go.Fv.Tr
open Go Go.Fv Go.Fv.Pl Go.Proofs
variable {G:GV}
end Go.Fv.Tr
namespace Go.Fv.Tr
open Go Go.Fv Go.Fv.Pl Go.Proofs
theorem TabOk_put {t:Tab} (h:TabOk t) {n:Int} {p:Pr} {f:Pr → Pr} (hp:at? t.ps n = some p) {q':List Int} {ts':List Tm}
  (hts:TsOk t.ps.length ts') (hrow:RowOk ts' n (f p)) (htm:∀ m,m ≠ n → (timed ts' m ↔ timed t.ts m)) (hq:∀ m,m ≠ n → (m ∈ q' ↔ m ∈ t.q)) (hqn:n ∈ q' ↔ (f p).state = 1) (hnd:q'.Nodup) :
  TabOk ⟨setP t.ps n f,q',ts'⟩:=by
 have h0:=(at?_lt hp).1
 have hat:∀ m,at? (setP t.ps n f) m = if m = n then some (f p) else at? t.ps m:=fun m => by
  rw [at?_set h0]
  by_cases e:m = n
  ·subst e; simp [hp]
  ·simp [e]
 refine TabOk_of (by simp only [setP_len]; exact h.few) (by simp only [setP_len]; exact hts) (fun m q hq' => ?_) ⟨fun m hm => ?_,hnd,fun i hi hr => ?_⟩
 ·simp only at hq' ⊢
  rw [hat] at hq'
  by_cases e:m = n
  ·subst e; rw [if_pos rfl] at hq'; cases hq'; exact hrow
  ·rw [if_neg e] at hq'
   have:=h.at hq'
   exact ⟨this.1,fun g => this.2.1 ((htm m e).1 g),fun g => this.2.2 fun g' => g ((htm m e).2 g')⟩
 ·unfold isReady
  simp only at hm ⊢
  rw [hat]
  by_cases e:m = n
  ·subst e; rw [if_pos rfl]; simp [hqn.1 hm]
  ·rw [if_neg e]; exact h.q.1 m ((hq m e).1 hm)
 ·simp only at hi hr ⊢
  rw [setP_len] at hi
  unfold isReady at hr
  rw [hat] at hr
  by_cases e:((i:Nat):Int) = n
  ·rw [if_pos e] at hr; rw [e]; exact hqn.2 (by simpa using hr)
  ·rw [if_neg e] at hr; exact (hq _ e).2 (h.q.2.2 i hi hr)
theorem not_timed {t:Tab} (h:TabOk t) {n:Int} {p:Pr} (hp:at? t.ps n = some p) (hs:p.state ≠ 2):¬ timed t.ts n:=fun g => hs ((h.at hp).2.1 g)
theorem mem_queue {t:Tab} (h:TabOk t) {n:Int} {p:Pr} (hp:at? t.ps n = some p):n ∈ t.q ↔ p.state = 1:=by
 constructor
 ·intro g
  have:=h.q.1 n g
  unfold isReady at this
  rw [hp] at this
  simpa using this
 ·intro g
  have h0:=at?_lt hp
  have:=h.q.2.2 n.toNat (by omega)
  rw [Int.toNat_of_nonneg h0.1] at this
  exact this (by unfold isReady; rw [hp]; simp [g])
theorem no_wait {t:Tab} (h:TabOk t) {n:Int} {p:Pr} (hp:at? t.ps n = some p) (hs:p.state ≠ 2):p.wait = 0 ∧ p.obj = 0:=by
 obtain ⟨g1,g2,g3,g4,g5,g6,g7⟩:=(h.at hp).1
 have hw:p.wait = 0:=Decidable.byContradiction fun e => hs (g5.1 e)
 exact ⟨hw,by omega⟩
theorem timed_perm {l m:List Tm} (h:l.Perm m) (n:Int):timed l n ↔ timed m n:=by
 unfold timed
 exact (h.map Tm.proc).mem_iff
theorem timed_app {l m:List Tm} {n:Int}:timed (l ++ m) n ↔ timed l n ∨ timed m n:=by
 unfold timed; rw [List.map_append,List.mem_append]
theorem timed_one {a:Tm} {n:Int}:timed [a] n ↔ n = a.proc:=by unfold timed; simp
theorem wo_eq (ts:List Tm) (p:Int):wo ts p = ts.filter (·.proc ≠ p):=by
 unfold wo
 exact List.filter_congr fun a _ => by simp
theorem timed_set {ts:List Tm} {n d m:Int}:timed (setT ts n d) m ↔ m = n ∨ timed ts m:=by
 unfold setT
 rw [timed_perm (isort_perm _),timed_app,timed_one,wo_eq,timed_filter]
 simp only
 constructor
 ·rintro (⟨h,_⟩ | h)
  ·exact .inr h
  ·exact .inl h
 ·rintro (h | h)
  ·exact .inr h
  ·by_cases e:m = n
   ·exact .inr e
   ·exact .inl ⟨h,e⟩
theorem setT_ok {k:Int} {ts:List Tm} (h:TsOk k ts) {n d:Int} (hr:right k ⟨n,d⟩):TsOk k (setT ts n d):=by
 refine isort_ok (fun t ht => ?_) ?_
 ·rcases List.mem_append.1 ht with g | g
  ·exact h.mem t (List.mem_filter.1 g).1
  ·rw [List.mem_singleton] at g; subst g; exact hr
 ·rw [List.map_append,List.nodup_append]
  refine ⟨(h.filter _).nodup,by simp,fun a ha b hb => ?_⟩
  simp only [List.map_cons,List.map_nil,List.mem_singleton] at hb
  subst hb
  obtain ⟨x,hx,rfl⟩:=List.mem_map.1 ha
  have:=(List.mem_filter.1 hx).2
  simpa using this
def blockP (w o:Int) (p:Pr):Pr:={ p with state:=2,wait:=w,obj:=o }
def Tab.block (t:Tab) (n w o d:Int):Tab:={ ps:=setP t.ps n (blockP w o),q:=t.q.filter (· ≠ n),ts:=if 0 ≤ d then setT t.ts n d else t.ts }
def blkOk (w o d:Int):Prop:=(1 ≤ w ∧ w ≤ 4) ∧ 0 ≤ o ∧ (w = 1 → o = 0 ∧ d ≠ -1) ∧ -1 ≤ d ∧ d ≤ 1010000
instance (w o d:Int):Decidable (blkOk w o d):=inferInstanceAs (Decidable (_ ∧ _ ∧ (_ → _) ∧ _ ∧ _))
theorem q_out {q:List Int} {n m:Int} (h:m ≠ n):m ∈ q.filter (· ≠ n) ↔ m ∈ q:=by simp [List.mem_filter,h]
theorem q_outn {q:List Int} {n:Int}:n ∉ q.filter (· ≠ n):=by simp [List.mem_filter]
theorem right_at {t:Tab} {n:Int} {p:Pr} (hp:at? t.ps n = some p) {d:Int} (h0:0 ≤ d) (h1:d ≤ 1010000):right t.ps.length ⟨n,d⟩:=⟨(at?_lt hp).1,(at?_lt hp).2,h0,h1⟩
theorem TabOk.block {t:Tab} (h:TabOk t) {n w o d:Int} {p:Pr} (hp:at? t.ps n = some p) (hs:p.state = 1) (hb:blkOk w o d):TabOk (Tab.block t n w o d):=by
 obtain ⟨b1,b2,b3,b4,b5⟩:=hb
 obtain ⟨g1,g2,g3,g4,g5,g6,g7⟩:=(h.at hp).1
 have hn:=not_timed h hp (by omega)
 refine TabOk_put (f:=blockP w o) h hp ?_ ⟨⟨g1,by simp [blockP],g3,by simp only [blockP]; omega,by simp only [blockP]; simp; omega,b2,?_⟩,fun _ => rfl,fun ht => ?_⟩ (fun m hm => ?_) (fun m hm => q_out hm) ⟨fun g => (q_outn g).elim,fun g => by simp [blockP] at g⟩ (h.q.2.1.sublist List.filter_sublist)
 ·by_cases hd:0 ≤ d
  ·rw [if_pos hd]; exact setT_ok h.ts (right_at hp hd b5)
  ·rw [if_neg hd]; exact h.ts
 ·simp only [blockP]; omega
 ·simp only [blockP]
  intro hw
  have:=b3 hw
  rw [if_pos (by omega)] at ht
  exact ht (timed_set.2 (.inl rfl))
 ·by_cases hd:0 ≤ d
  ·rw [if_pos hd,timed_set]; exact ⟨fun g => g.resolve_left hm,.inr⟩
  ·rw [if_neg hd]
def haltP (s:Int) (p:Pr):Pr:={ p with state:=s }
def Tab.halt (t:Tab) (n s:Int):Tab:={ ps:=setP t.ps n (haltP s),q:=t.q.filter (· ≠ n),ts:=t.ts }
theorem TabOk.halt {t:Tab} (h:TabOk t) {n s:Int} {p:Pr} (hp:at? t.ps n = some p) (hs:p.state = 1) (hb:s = 0 ∨ s = 3):TabOk (Tab.halt t n s):=by
 obtain ⟨g1,g2,g3,g4,g5,g6,g7⟩:=(h.at hp).1
 have hn:=not_timed h hp (by omega)
 have hw:=no_wait h hp (by omega)
 refine TabOk_put (f:=haltP s) h hp h.ts ⟨⟨g1,by simp only [haltP]; omega,g3,g4,by simp only [haltP]; omega,g6,g7⟩,fun g => (hn g).elim,fun _ => by simp only [haltP]; omega⟩ (fun m hm => Iff.rfl) (fun m hm => q_out hm) ⟨fun g => (q_outn g).elim,fun g => by simp only [haltP] at g; omega⟩ (h.q.2.1.sublist List.filter_sublist)
def startP (e pr:Int):Pr:=⟨List.replicate 16 0,e,1,pr,0,0⟩
def Tab.start (t:Tab) (n e pr:Int):Tab:={ ps:=setP t.ps n (fun _ => startP e pr),q:=t.q ++ [n],ts:=t.ts }
theorem TabOk.start {t:Tab} (h:TabOk t) {n e pr:Int} {p:Pr} (hp:at? t.ps n = some p) (hs:p.state = 0 ∨ p.state = 3) (hb:0 ≤ pr ∧ pr ≤ 255):TabOk (Tab.start t n e pr):=by
 have hn:=not_timed h hp (by omega)
 have hq:=mem_queue h hp
 have hnq:n ∉ t.q:=fun g => by have:=hq.1 g; omega
 refine TabOk_put (f:=fun _ => startP e pr) h hp h.ts ⟨⟨rfl,by simp [startP],hb,by simp [startP],by simp [startP],by simp [startP],.inl rfl⟩,fun g => (hn g).elim,fun _ => by simp [startP]⟩ (fun m hm => Iff.rfl) (fun m hm => by simp [hm]) ⟨fun _ => rfl,fun _ => by simp⟩ ?_
 rw [List.nodup_append]
 exact ⟨h.q.2.1,by simp,fun a ha b hb e => by rw [List.mem_singleton] at hb; subst hb; subst e; exact hnq ha⟩
end Go.Fv.Tr
namespace Go.Fv.Tr
open Go Go.Fv Go.Fv.Pl Go.Proofs
variable {G:GV}
structure InB (K H:Heap) (lt:Nat) (u:Tab):Prop where
 fl:H.floor = K.floor
 k0:K.floor ≤ K.next
 old:∀ k,k < K.next → H.blk k = K.blk k
 l2:K.next ≤ lt
 ln:lt < H.next
 tab:∃ x y z,H.blk lt = some ⟨3,[[x,y,z]]⟩ ∧ OwnTab H x y z u ∧ ∀ k,(loc x = some k ∨ loc y = some k ∨ loc z = some k) → K.next ≤ k ∧ k ≠ lt
 wp:∀ p ∈ u.ps,Wp p
variable {K H H':Heap} {lt:Nat} {u:Tab}
theorem InB.start {x y z:V} {t:Tab} (h:OwnTab H x y z t) (f:Frame K H (fun _ => False)) (hK:K.floor ≤ K.next)
  (hl:∀ k,(loc x = some k ∨ loc y = some k ∨ loc z = some k) → K.next ≤ k) (hw:∀ p ∈ t.ps,Wp p):InB K ((H.add ⟨3,[[.nils,.nils,.nils]]⟩).set H.next ⟨3,[[x,y,z]]⟩) H.next t:=by
 have fA:Frame H ((H.add ⟨3,[[.nils,.nils,.nils]]⟩).set H.next ⟨3,[[x,y,z]]⟩) (fun _ => False):=Frame.loc _ _
 have hn2:=f.next
 exact ⟨fA.floor.trans f.floor,hK,fun k hk => (fA.old k (by omega) id).trans (f.old k hk id),hn2,Nat.lt_succ_self _,⟨x,y,z,by rw [Heap.set_blk,if_pos rfl],h.frame fA fun _ _ g => g,
  fun k hk => ⟨hl k hk,by have:=h.lt hk; omega⟩⟩,hw⟩
theorem InB.low (h:InB K H lt u):H.floor ≤ lt:=by have:=h.fl; have:=h.k0; have:=h.l2; omega
theorem InB.lown (h:InB K H lt u):H.floor ≤ H.next:=by have:=h.low; have:=h.ln; omega
theorem InB.frame {p:Nat → Prop} (h:InB K H lt u) (f:Frame H H' p) (hp:∀ k,k < H.next → p k → K.next ≤ k ∧ k ≠ lt ∧ ∀ x y z,H.blk lt = some ⟨3,[[x,y,z]]⟩ → ¬ (loc x = some k ∨ loc y = some k ∨ loc z = some k)):InB K H' lt u:=by
 obtain ⟨x,y,z,hb,ho,hk⟩:=h.tab
 have hln:=h.ln
 have hl2:=h.l2
 refine ⟨f.floor.trans h.fl,h.k0,fun k hk' => (f.old k (by omega) fun g => ?_).trans (h.old k hk'),hl2,Nat.lt_of_lt_of_le hln f.next,⟨x,y,z,(f.old lt hln fun g => ?_).trans hb,ho.frame f fun l hl g => ?_,hk⟩,h.wp⟩
 ·have:=(hp k (by omega) g).1; omega
 ·exact (hp lt hln g).2.1 rfl
 ·exact (hp l (ho.lt hl) g).2.2 x y z hb hl
theorem InB.add (h:InB K H lt u) (b:Blk):InB K (H.add b) lt u:=h.frame (Frame.add b (fun _ => False)) fun _ _ g => g.elim
theorem InB.put {x y z:V} {v:Tab} (h:InB K H lt u) (o:OwnTab H x y z v) (hk:∀ k,(loc x = some k ∨ loc y = some k ∨ loc z = some k) → K.next ≤ k ∧ k ≠ lt) (hw:∀ p ∈ v.ps,Wp p) :
  InB K (H.set lt ⟨3,[[x,y,z]]⟩) lt v :=
 ⟨h.fl,h.k0,fun k hk' => (by rw [Heap.set_blk,if_neg (by have:=h.l2; omega)]; exact h.old k hk'),h.l2,h.ln,⟨x,y,z,by rw [Heap.set_blk,if_pos rfl],o.frame (Frame.set _ lt (p:=fun k => k = lt) rfl) fun l hl e => (hk l hl).2 e,hk⟩,hw⟩
theorem InB.wake (n:Nat) (h:InB K H lt u) (hok:TabOk u) {m:Int} {p:Pr} (hm:at? u.ps m = some p) (r1:Int) :
  Run (callV (cfg G) (sem (cfg G) (n + 4)) 140 [.ptr lt 0 0,.int .i64 m,.int .u32 r1]) H fun _ H' => InB K H' lt (u.wake m r1) ∧ H.next ≤ H'.next:=by
 obtain ⟨x,y,z,hb,ho,hk⟩:=h.tab
 have hlt:=at?_lt hm
 obtain ⟨k,rfl⟩:=Int.eq_ofNat_of_zero_le hlt.1
 have few:=((ROk_iff u).2 hok).few
 have hl2:=h.l2
 have hln:=h.ln
 refine (wake_spec n (l:=lt) (s:=3) (p:=k) hb ho h.low hln (fun e => (hk lt (.inl e)).2 rfl) (fun e => (hk lt (.inr (.inl e))).2 rfl) (fun e => (hk lt (.inr (.inr e))).2 rfl) (by omega) (by omega) h.wp (by omega) r1).mono fun _ H' ⟨y',z',b',o',f,ly,lz⟩ => ⟨?_,f.next⟩
 refine ⟨f.floor.trans h.fl,h.k0,fun k hk' => (f.old k (by omega) fun g => ?_).trans (h.old k hk'),hl2,Nat.lt_of_lt_of_le hln f.next,⟨x,y',z',b',o',fun j hj => ?_⟩,wake_wp h.wp _ _⟩
 ·rcases g with g | g | g | g
  ·omega
  ·have:=(hk k (.inl g)).1; omega
  ·have:=(hk k (.inr (.inl g))).1; omega
  ·have:=(hk k (.inr (.inr g))).1; omega
 ·rcases hj with g | g | g
  ·exact hk j (.inl g)
  ·rcases ly j g with g | g
   ·exact hk j (.inr (.inl g))
   ·omega
  ·exact hk j (.inr (.inr (lz j g)))
theorem setP_wp {ps:List Pr} (h:∀ p ∈ ps,Wp p) {n:Nat} (hn:n < ps.length) {f:Pr → Pr} (hf:Wp (f ps[n])):∀ p ∈ setP ps (n:Int) f,Wp p:=by
 intro p hp
 obtain ⟨i,hi⟩:=List.getElem?_of_mem hp
 simp only [setP,Int.toNat_natCast,List.getElem?_modify] at hi
 obtain ⟨q,hq,e⟩:=Option.map_eq_some_iff.1 hi
 split at e
 ·rename_i hc
  subst hc
  obtain ⟨_,e2⟩:=List.getElem?_eq_some_iff.1 hq
  subst e2
  subst e
  exact hf
 ·subst e; exact h q (List.mem_of_getElem? hq)
theorem InB.proc (h:InB K H lt u) {p:Nat} (hp:p < u.ps.length):∃ x y z lx b,H.blk lt = some ⟨3,[[x,y,z]]⟩ ∧ idxV 21 x (.int .i64 (p:Int)) = some (.ptr lx p 0) ∧ H.blk lx = some b ∧ b.rows[p]? = some (prRow u.ps[p]) ∧ p < b.rows.length ∧
  H.floor ≤ lx ∧ lx ≠ lt ∧ K.next ≤ lx ∧ lx < H.next ∧ ∀ f:Pr → Pr,Wp (f u.ps[p]) → InB K (H.set lx ⟨b.sz,b.rows.set p (prRow (f u.ps[p]))⟩) lt { u with ps:=setP u.ps (p:Int) f }:=by
 obtain ⟨x,y,z,hb,ho,hk⟩:=h.tab
 obtain ⟨lx,b,ex,hix,hbx,hrx,hfx⟩:=ho.p.idx (k:=.i64) (i:=p) (by simpa using hp)
 simp only [List.getElem_map] at hrx
 have hkx:=hk lx (.inl ex)
 have hlx:=ho.lt (.inl ex)
 refine ⟨x,y,z,lx,b,hb,hix,hbx,hrx,(List.getElem?_eq_some_iff.1 hrx).1,hfx,hkx.2,hkx.1,hlx,fun f hf => ?_⟩
 have fs:Frame H (H.set lx ⟨b.sz,b.rows.set p (prRow (f u.ps[p]))⟩) (fun k => k = lx):=Frame.set _ _ rfl
 have hx:=ho.p.put (i:=p) ex hbx (prRow (f u.ps[p]))
 rw [← setP_map hp (f:=f)] at hx
 exact ⟨h.fl,h.k0,fun k hk' => (by rw [Heap.set_blk,if_neg (by omega)]; exact h.old k hk'),h.l2,h.ln,
  ⟨x,y,z,by rw [Heap.set_blk,if_neg (fun e => hkx.2 e.symm)]; exact hb,⟨hx,ho.q.frame fs fun k h1 h2 => ho.pq _ ex (h2 ▸ h1),ho.s.frame fs fun k h1 h2 => ho.ps _ ex (h2 ▸ h1),ho.pq,ho.ps,ho.qs⟩,hk⟩,setP_wp h.wp hp hf⟩
theorem InB.app (h:InB K H lt u) (m:Int) (hlen:u.q.length ≤ 8):∃ x y z,H.blk lt = some ⟨3,[[x,y,z]]⟩ ∧
  Run (Fv.appV 1 8 y (.ref H.next 1 0 1 1 true)) (H.add ⟨1,[intRow m]⟩) fun y' H3 => H3.blk lt = some ⟨3,[[x,y,z]]⟩ ∧ y'.cells? = some [y'] ∧ H3.floor = H.floor ∧ H.next < H3.next ∧ InB K (H3.set lt ⟨3,[[x,y',z]]⟩) lt { u with q:=u.q ++ [m] }:=by
 obtain ⟨x,y,z,hb,ho,hk⟩:=h.tab
 have hln:=h.ln
 have hl2:=h.l2
 have hlow:=h.lown
 refine ⟨x,y,z,hb,?_⟩
 have fa:Frame H (H.add ⟨1,[intRow m]⟩) (fun _ => False):=Frame.add _ _
 refine (Run.app (items:=[intRow m]) (bytes:=8) (by show H.floor ≤ H.next + 1; omega) (ho.q.frame fa fun _ _ g => g) (by simp [itemsV,Heap.add_blk]) (by simp only [List.length_map,List.length_singleton]; unfold room; omega)).mono fun y' H3 ⟨oy,f3,l3⟩ => ?_
 have f4:Frame H H3 (fun k => loc y = some k):=fa.trans f3 (fun _ _ g => g.elim) (fun _ _ g => g)
 have ly:∀ k,loc y' = some k → loc y = some k ∨ H.next + 1 ≤ k:=l3
 have hyl:∀ k,loc y = some k → k < H.next:=fun k hk => ho.lt (.inr (.inl hk))
 have hn3:H.next + 1 ≤ H3.next:=f3.next
 have hb3:H3.blk lt = some ⟨3,[[x,y,z]]⟩:=(f4.old lt hln fun g => (hk lt (.inr (.inl g))).2 rfl).trans hb
 refine ⟨hb3,oy.cells,f4.floor,hn3,?_⟩
 have o3:OwnTab H3 x y' z { u with q:=u.q ++ [m] }:=by
  refine ⟨ho.p.frame f4 fun l h1 h2 => ho.pq l h1 h2,?_,ho.s.frame f4 fun l h1 h2 => ho.qs l h2 h1,fun l h1 h2 => ?_,ho.ps,fun l h1 h2 => ?_⟩
  ·have e:(u.q ++ [m]).map intRow = u.q.map intRow ++ [intRow m]:=by rw [List.map_append]; rfl
   rw [e]; exact oy
  ·rcases ly l h2 with g | g
   ·exact ho.pq l h1 g
   ·have:=ho.lt (.inl h1); omega
  ·rcases ly l h1 with g | g
   ·exact ho.qs l g h2
   ·have:=ho.lt (.inr (.inr h2)); omega
 have hk':∀ k,(loc x = some k ∨ loc y' = some k ∨ loc z = some k) → K.next ≤ k ∧ k ≠ lt:=fun k g => by
  rcases g with g | g | g
  ·exact hk k (.inl g)
  ·rcases ly k g with g | g
   ·exact hk k (.inr (.inl g))
   ·omega
  ·exact hk k (.inr (.inr g))
 refine ⟨f4.floor.trans h.fl,h.k0,fun k hk2 => ?_,hl2,by show lt < H3.next; omega,⟨x,y',z,by rw [Heap.set_blk,if_pos rfl],o3.frame (Frame.set _ lt (p:=fun k => k = lt) rfl) fun l hl e => (hk' l hl).2 e,hk'⟩,h.wp⟩
 rw [Heap.set_blk,if_neg (by omega)]
 exact (f4.old k (by omega) fun g => by have:=(hk k (.inr (.inl g))).1; omega).trans (h.old k hk2)
theorem InB.show (h:InB K H lt u) (hok:TabOk u):∃ x y z,H.blk lt = some ⟨3,[[x,y,z]]⟩ ∧ ∀ K':Heap,(∀ k b,K.next ≤ k → k ≠ lt → H.blk k = some b → K'.blk k = some b) → ∀ ok,∃ a b c,IsTab a b c u ∧ thaw2 ok K' (.agg [x,y,z]) = some (.agg [a,b,c]):=by
 obtain ⟨x,y,z,hb,ho,hk⟩:=h.tab
 refine ⟨x,y,z,hb,fun K' hK => ?_⟩
 have n1:∀ {v:V} {sz:Nat} {rows:List (List V)},Own H v sz rows → (∀ k,loc v = some k → K.next ≤ k ∧ k ≠ lt) → Own ⟨K'.blk,H.next,H.floor⟩ v sz rows:=fun {v sz rows} o hv => by
  rcases o with o | ⟨l,n,c,ex,b,rfl,h1,h2,h3,h4⟩
  ·exact .inl o
  ·exact .inr ⟨l,n,c,ex,b,rfl,hK _ _ (hv _ rfl).1 (hv _ rfl).2 h1,h2,h3,h4⟩
 have o':OwnTab ⟨K'.blk,H.next,H.floor⟩ x y z u:=⟨n1 ho.p fun k g => hk k (.inl g),n1 ho.q fun k g => hk k (.inr (.inl g)),n1 ho.s fun k g => hk k (.inr (.inr g)),ho.pq,ho.ps,ho.qs⟩
 have e2:∀ ok (v:V),thaw2 ok K' v = thaw2 ok ⟨K'.blk,H.next,H.floor⟩ v:=fun ok v => (thaw2_eq (H:=⟨K'.blk,H.next,H.floor⟩) (H':=K') (fun _ => rfl) _)
 intro ok
 obtain ⟨a,b,c,q1,q2⟩:=thaw2_tab o' h.wp hok ok
 exact ⟨a,b,c,q2,by rw [e2]; exact q1⟩
end Go.Fv.Tr
