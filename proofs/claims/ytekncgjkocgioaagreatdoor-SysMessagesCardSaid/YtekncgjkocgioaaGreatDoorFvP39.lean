/-
  The caller's ports and pages. By an AI agent; no person has read it.
-/
import Derived.Test.YtekncgjkocgioaaGreatDoorFvP38
set_option linter.unusedVariables false
set_option linter.unusedSimpArgs false
set_option linter.unusedSectionVars false
/-! The caller's ports and pages. -/
namespace Go.Fv.Tr
open Go Go.Fv Go.Fv.Pl Go.Proofs
variable {G:GV}
namespace Sy
variable {l m:List V} {s:St} {p:Pn} {x y z a b c d x' y' z' u v w g:V} {pr:List (List V)} {k:List V} {H H' K:Heap} {i:Nat} {pc tk ft:Int} {rep:V}
theorem thaw_at {xx:V} {sz:Nat} {rows:List (List V)} (h:Own H xx sz rows) (hf:flatRows rows = true) (hb:∀ n,n < H.next → K.blk n = H.blk n):∃ yy,Fv.thaw true K xx = some yy ∧ Sls yy sz rows:=by
 rcases h with h | ⟨l',n',c',ex,bb,rfl,h1,h2,h3,h4⟩
 ·exact Own.thaw (H:=K) (.inl h) hf true
 ·refine Own.thaw (H:=⟨K.blk,l' + 1,0⟩) (.inr ⟨l',n',c',ex,bb,rfl,(hb l' h3).trans h1,Nat.zero_le _,Nat.lt_succ_self _,h4⟩) hf true
theorem thawV_thaw {xx yy:V} (h:Fv.thaw true K xx = some yy) (hc:loc xx = none → xx.cells? = some [xx]):(∀ l,xx ≠ .agg l) → (∀ l,xx ≠ .tuple l) → thawV true K xx = some yy:=by
 intro h1 h2
 unfold thawV
 split
 ·exact absurd rfl (h1 _)
 ·exact absurd rfl (h2 _)
 ·exact h
theorem own_not {xx:V} {sz:Nat} {rows:List (List V)} (h:Own H xx sz rows):(∀ l,xx ≠ .agg l) ∧ ∀ l,xx ≠ .tuple l:=by
 rcases h with ⟨rfl | rfl,_⟩ | ⟨l',n',c',ex,bb,rfl,_⟩ <;> exact ⟨fun _ e => (by cases e),fun _ e => (by cases e)⟩
theorem thawV_at {xx:V} {sz:Nat} {rows:List (List V)} (h:Own H xx sz rows) (hf:flatRows rows = true) (hb:∀ n,n < H.next → K.blk n = H.blk n):∃ yy,thawV true K xx = some yy ∧ Sls yy sz rows:=by
 obtain ⟨yy,e,hs⟩:=thaw_at h hf hb
 exact ⟨yy,thawV_thaw e (fun _ => h.cells) (own_not h).1 (own_not h).2,hs⟩
theorem po_thaw {row:List V} {q:Po} (h:PoM H row q) (hb:∀ n,n < H.next → K.blk n = H.blk n):∃ row',thawV true K (.agg row) = some (.agg row') ∧ PoS row' q:=by
 obtain ⟨mm,rfl,ho,hl⟩:=h
 obtain ⟨yy,e,hs⟩:=thaw_at ho (flat_strs _) hb
 refine ⟨[yy,i64 q.age],?_,yy,rfl,hs,hl⟩
 have ei:Fv.thaw true K (i64 q.age) = some (i64 q.age):=rfl
 simp only [thawV,List.mapM_cons,List.mapM_nil,e,ei]
 rfl
theorem clPort (h:ClX H i p s pc tk rep ft a b c d x y z u v w g pr) {n:Nat} {q:Po} (hq:s.ports[n]? = some q):∃ lw bw row,loc w = some lw ∧ idxV 2 w (.int .i64 (n:Nat)) = some (.ptr lw n 0) ∧ H.blk lw = some bw ∧ bw.rows[n]? = some row ∧ n < bw.rows.length ∧ pr[n]? = some row ∧ PoM H row q ∧ row.length = 2 ∧ H.floor ≤ lw ∧ lw ≠ i ∧ lw < H.next ∧ lw ∈ fp i x y z u v w g pr:=by
 obtain ⟨l,ms⟩:=h.ms
 obtain ⟨hn,e⟩:=List.getElem?_eq_some_iff.1 hq
 have hlt:n < pr.length:=by rw [ms.row.len]; exact hn
 obtain ⟨lw,bw,h1,h2,h3,h4,h5⟩:=ms.ports.idx (k:=.i64) hlt
 have hrow:=ms.row.row n hlt
 have hmem:lw ∈ lv [x,y,z,u,v,w,g] ++ lr pr:=List.mem_append_left _ (mem_lv.2 ⟨w,by simp,h1⟩)
 have hp:PoM H pr[n] q:=e ▸ hrow
 refine ⟨lw,bw,pr[n],h1,h2,h3,h4,(List.getElem?_eq_some_iff.1 h4).1,List.getElem?_eq_getElem hlt,hp,?_,h5,fun e => h.no (e ▸ hmem),ms.lt hmem,List.mem_cons_of_mem _ hmem⟩
 obtain ⟨mm,e2,_⟩:=hp
 rw [e2]
 rfl
theorem lr_set_mem : ∀ {pr : List (List V)} {n : Nat} {row : List V} {t : Nat}, t ∈ lr (pr.set n row) → t ∈ lr pr ∨ hd row = some t
  | [],_,_,_,h => .inl h
  | r :: pr, 0, row, t, h => by
    simp only [List.set_cons_zero,lr,List.mem_filterMap,List.mem_cons] at h ⊢
    obtain ⟨a,rfl | h,e⟩:=h
    · exact .inr e
    · exact .inl ⟨a,.inr h,e⟩
  | r :: pr, n + 1, row, t, h => by
    have ih:=lr_set_mem (pr:=pr) (n:=n) (row:=row) (t:=t)
    simp only [List.set_cons_succ,lr,List.mem_filterMap,List.mem_cons] at h ih ⊢
    obtain ⟨a,rfl | h,e⟩:=h
    · exact .inl ⟨a,.inl rfl,e⟩
    · rcases ih ⟨a,h,e⟩ with ⟨b,h1,h2⟩ | h1
      · exact .inl ⟨b,.inr h1,h2⟩
      · exact .inr h1
theorem lr_cons (r:List V) (pr:List (List V)):lr (r :: pr) = (hd r).toList ++ lr pr:=by
 cases h:hd r with
 | none => rw [lr_none h]; rfl
 | some l => rw [lr_some h]; rfl
theorem lr_set_nodup : ∀ {pr : List (List V)} {n : Nat} {row : List V}, (lr pr).Nodup → (∀ t, hd row = some t → t ∉ lr pr) → (lr (pr.set n row)).Nodup
  | [],_,_,h,_ => h
  | r :: pr, 0, row, h, hn => by
    rw [List.set_cons_zero,lr_cons]
    rw [lr_cons,List.nodup_append] at h
    rw [List.nodup_append]
    refine ⟨by cases hd row <;> simp,h.2.1,fun a ha b hb e => ?_⟩
    have ha':hd row = some a:=by cases e2:hd row with | none => rw [e2] at ha; cases ha | some t => rw [e2] at ha; simp at ha; rw [ha]
    exact hn a ha' (by rw [lr_cons]; exact List.mem_append_right _ (e ▸ hb))
  | r :: pr, n + 1, row, h, hn => by
    rw [List.set_cons_succ,lr_cons]
    rw [lr_cons] at h hn
    rw [List.nodup_append] at h ⊢
    refine ⟨h.1,lr_set_nodup h.2.1 fun t ht hm => hn t ht (List.mem_append_right _ hm),fun a ha b hb e => ?_⟩
    rcases lr_set_mem hb with hb | hb
    · exact h.2.2 a ha b hb e
    · exact hn b hb (List.mem_append_left _ (e ▸ ha))
theorem StB.port {s:St} (h:StB s) {n:Nat} {q:Po} (hq:q.msgs.length * 16 ≤ room):StB { s with ports:=s.ports.set n q } :=
 ⟨h.wp,h.t,h.up,h.sems,by rw [List.length_set]; exact h.ports,h.pages,fun r hr => (List.mem_or_eq_of_mem_set hr).elim (h.msgs r) fun e => e ▸ hq,h.data⟩
theorem StB.page {s:St} (h:StB s) {ps:List Pa} (hl:ps.length = s.pages.length) (hd:∀ p ∈ ps,p.data.length = 64):StB { s with pages:=ps } :=
 ⟨h.wp,h.t,h.up,h.sems,h.ports,by rw [hl]; exact h.pages,h.msgs,hd⟩
theorem putPort (h:ClX H i p s pc tk rep ft a b c d x y z u v w g pr) {n:Nat} {q0 q:Po} (hq:s.ports[n]? = some q0) {lw:Nat} {bw:Blk} (hw:loc w = some lw) (hb:H.blk lw = some bw) {mv:V} (ho:Own H mv 1 (q.msgs.map stR))
  (hl:q.msgs.length * 16 ≤ room) (hf:∀ t,loc mv = some t → t ∉ fp i x y z u v w g pr) :
  ClX (H.set lw ⟨bw.sz,bw.rows.set n [mv,i64 q.age]⟩) i p { s with ports:=s.ports.set n q } pc tk rep ft a b c d x y z u v w g (pr.set n [mv,i64 q.age]):=by
 obtain ⟨l,ms⟩:=h.ms
 have hmem:lw ∈ lv [x,y,z,u,v,w,g] ++ lr pr:=List.mem_append_left _ (mem_lv.2 ⟨w,by simp,hw⟩)
 have hne:lw ≠ i:=fun e => h.no (e ▸ hmem)
 have hnd:∀ t,hd [mv,i64 q.age] = some t → t ∉ fp i x y z u v w g pr:=fun t ht => hf t ht
 obtain ⟨d1,d2⟩:=nd_ne (A:=[x,y,z,u,v]) (B:=[g]) ms.nd hw
 have f:Frame H (H.set lw ⟨bw.sz,bw.rows.set n [mv,i64 q.age]⟩) (fun m => m = lw):=Frame.set _ _ rfl
 have hbig:=room_big
 have hpo:PoM (H.set lw ⟨bw.sz,bw.rows.set n [mv,i64 q.age]⟩) [mv,i64 q.age] q :=
  ⟨mv,rfl,ho.frame f fun t ht e => hf t ht (e ▸ List.mem_cons_of_mem _ hmem),by omega⟩
 refine ⟨by rw [Heap.set_blk,if_neg (Ne.symm hne)]; exact h.blk,h.lt,h.pn,⟨_,rfl,ms.ps.frame f (d1 _ (by simp)),ms.q.frame f (d1 _ (by simp)),ms.ts.frame f (d1 _ (by simp)),ms.up.frame f (d1 _ (by simp)),ms.sems.frame f (d1 _ (by simp)),ms.ports.put hw hb _,ms.pages.frame f (d1 _ (by simp)),(ms.row.frame f d2).put hpo,?_⟩,fun hm => ?_,h.pc,h.sb.port hl⟩
 ·have nd:=ms.nd
  rw [List.nodup_append] at nd ⊢
  refine ⟨nd.1,lr_set_nodup nd.2.1 fun t ht hm => hnd t ht (List.mem_cons_of_mem _ (List.mem_append_right _ hm)),fun t ht r hr e => ?_⟩
  rcases lr_set_mem hr with hr | hr
  ·exact nd.2.2 t ht r hr e
  ·exact hnd r hr (List.mem_cons_of_mem _ (List.mem_append_left _ (e ▸ ht)))
 ·rcases List.mem_append.1 hm with hm | hm
  ·exact h.no (List.mem_append_left _ hm)
  ·rcases lr_set_mem hm with hm | hm
   ·exact h.no (List.mem_append_right _ hm)
   ·exact hnd i hm (List.mem_cons_self ..)
theorem putPort_fp {n:Nat} {mv:V} {q:Po} {t:Nat} (h:t ∈ fp i x y z u v w g (pr.set n [mv,i64 q.age])):t ∈ fp i x y z u v w g pr ∨ loc mv = some t:=by
 rcases List.mem_cons.1 h with rfl | h
 ·exact .inl (List.mem_cons_self ..)
 ·rcases List.mem_append.1 h with h | h
  ·exact .inl (List.mem_cons_of_mem _ (List.mem_append_left _ h))
  ·exact (lr_set_mem h).imp (fun h => List.mem_cons_of_mem _ (List.mem_append_right _ h)) id
theorem lv_last {A:List V} {q:V} {t:Nat}:t ∈ lv (A ++ [q]) ↔ t ∈ lv A ∨ loc q = some t:=by
 rw [lv_app,List.mem_append,mem_lv (l:=[q])]
 simp
theorem putPages (h:ClX H i p s pc tk rep ft a b c d x y z u v w g pr) {ps:List Pa} {g':V} (ho:Own H g' 66 (ps.map paR)) (hl:ps.length = s.pages.length) (hd:∀ p ∈ ps,p.data.length = 64) (hf:∀ t,loc g' = some t → t ∉ fp i x y z u v w g pr) :
  ClX (H.set i ⟨21,[[i64 p.id,.bool p.mob,a,b,c,i64 p.ev,d,i64 s.id,i64 s.fr,i64 s.ep,x,y,z,u,v,w,g',i64 pc,i64 tk,rep,i64 ft]]⟩) i p { s with pages:=ps } pc tk rep ft a b c d x y z u v w g' pr:=by
 obtain ⟨l,ms⟩:=h.ms
 have f:Frame H (H.set i ⟨21,[[i64 p.id,.bool p.mob,a,b,c,i64 p.ev,d,i64 s.id,i64 s.fr,i64 s.ep,x,y,z,u,v,w,g',i64 pc,i64 tk,rep,i64 ft]]⟩) (fun m => m = i):=Frame.set _ _ rfl
 have hno:∀ t ∈ lv [x,y,z,u,v,w,g] ++ lr pr,¬ t = i:=fun t ht e => h.no (e ▸ ht)
 have hlv:∀ q ∈ [x,y,z,u,v,w,g],∀ t,loc q = some t → ¬ t = i:=fun q hq t ht => hno t (List.mem_append_left _ (mem_lv.2 ⟨q,hq,ht⟩))
 have sub:∀ t,t ∈ lv [x,y,z,u,v,w,g'] → t ∈ lv [x,y,z,u,v,w,g] ∨ loc g' = some t:=fun t ht => by
  rcases (lv_last (A:=[x,y,z,u,v,w])).1 ht with ht | ht
  ·exact .inl ((lv_last (A:=[x,y,z,u,v,w])).2 (.inl ht))
  ·exact .inr ht
 refine ⟨by rw [Heap.set_blk,if_pos rfl],h.lt,h.pn,⟨_,rfl,ms.ps.frame f (hlv _ (by simp)),ms.q.frame f (hlv _ (by simp)),ms.ts.frame f (hlv _ (by simp)),ms.up.frame f (hlv _ (by simp)),ms.sems.frame f (hlv _ (by simp)),ms.ports.frame f (hlv _ (by simp)),ho.frame f fun t ht e => hf t ht (e ▸ List.mem_cons_self ..),ms.row.frame f fun t ht => hno t (List.mem_append_right _ ht),?_⟩,fun hm => ?_,h.pc,h.sb.page hl hd⟩
 ·have nd:=ms.nd
  rw [List.nodup_append] at nd ⊢
  refine ⟨?_,nd.2.1,fun t ht r hr e => ?_⟩
  ·have e6:lv [x,y,z,u,v,w,g'] = lv [x,y,z,u,v,w] ++ (loc g').toList:=by
    show lv ([x,y,z,u,v,w] ++ [g']) = _
    rw [lv_app]
    have:lv [g'] = (loc g').toList:=by rw [lv_cons]; exact List.append_nil _
    rw [this]
   have n6:(lv [x,y,z,u,v,w]).Nodup:=by
    have:lv [x,y,z,u,v,w,g] = lv [x,y,z,u,v,w] ++ lv [g]:=lv_app [x,y,z,u,v,w] [g]
    have n1:=nd.1
    rw [this,List.nodup_append] at n1
    exact n1.1
   rw [e6,List.nodup_append]
   refine ⟨n6,by cases loc g' <;> simp,fun a ha b hb e => ?_⟩
   have hb':loc g' = some b:=by cases e2:loc g' with | none => rw [e2] at hb; cases hb | some t => rw [e2] at hb; simp at hb; rw [hb]
   exact hf b hb' (List.mem_cons_of_mem _ (List.mem_append_left _ (e ▸ (lv_last (A:=[x,y,z,u,v,w])).2 (.inl ha))))
  ·rcases sub t ht with ht | ht
   ·exact nd.2.2 t ht r hr e
   ·exact hf t ht (List.mem_cons_of_mem _ (List.mem_append_right _ (e ▸ hr)))
 ·rcases List.mem_append.1 hm with hm | hm
  ·rcases sub i hm with hm | hm
   ·exact h.no (List.mem_append_left _ hm)
   ·exact hf i hm (List.mem_cons_self ..)
  ·exact h.no (List.mem_append_right _ hm)
theorem putPages_fp {g':V} {t:Nat} (h:t ∈ fp i x y z u v w g' pr):t ∈ fp i x y z u v w g pr ∨ loc g' = some t:=by
 rcases List.mem_cons.1 h with rfl | h
 ·exact .inl (List.mem_cons_self ..)
 ·rcases List.mem_append.1 h with h | h
  ·rcases (lv_last (A:=[x,y,z,u,v,w])).1 h with h | h
   ·exact .inl (List.mem_cons_of_mem _ (List.mem_append_left _ ((lv_last (A:=[x,y,z,u,v,w])).2 (.inl h))))
   ·exact .inr h
  ·exact .inl (List.mem_cons_of_mem _ (List.mem_append_right _ h))
set_option maxRecDepth 20000 in
theorem isOne_run (nn:Nat) (h:ClX H i p s pc tk rep ft a b c d x y z u v w g pr) {n:Nat} {q:Tp} (hq:p.ports[n]? = some q) {k1 k2:Int} (hk:q.kind = k1 ∨ q.kind = k2) :
  Run (callV (cfg G) (sem (cfg G) (nn + 2)) 97 [.ptr i 0 0,i64 (n:Nat),i64 k1,i64 k2]) H fun r H' => r = .bool true ∧ H' = H:=by
 have hb:=h.blk
 obtain ⟨lp,pn⟩:=h.pn
 obtain ⟨hn,e⟩:=List.getElem?_eq_some_iff.1 hq
 have hi:=pn.ports.idx (k:=.i64) (i:=n) (by rw [List.length_map]; exact hn)
 rw [List.getElem_map,e] at hi
 have t0:(tpR q)[0]? = some (i64 q.kind):=rfl
 rw [callV_inl rfl,ferry_sys_caller_isOne_eq]
 simp only [ferry_sys_caller_isOne]
 by_cases h1:q.kind = k1
 ·have e1:(q.kind == k1) = true:=by simpa using h1
  (repeat' (first | (simp only [wp,extractV,w0,reduceIte,Nat.reduceAdd,Nat.reduceLT,Nat.reduceLeDiff,Nat.reduceEqDiff,hb,nil_ptr,hi,t0,e1]) | (with_reducible ((first | apply xC | apply xG | apply xQ) <;> intro hb <;> try simp only [hb]))))
 ·have e1:(q.kind == k1) = false:=by simpa using h1
  have e2:(q.kind == k2) = true:=by simpa using hk.resolve_left h1
  (repeat' (first | (simp only [wp,extractV,w0,reduceIte,Nat.reduceAdd,Nat.reduceLT,Nat.reduceLeDiff,Nat.reduceEqDiff,hb,nil_ptr,hi,t0,e1,e2]) | (with_reducible ((first | apply xC | apply xG | apply xQ) <;> intro hb <;> try simp only [hb]))))
end Sy
end Go.Fv.Tr
namespace Go.Fv.Tr
open Go Go.Fv Go.Fv.Pl Go.Proofs
variable {G:GV}
namespace Sy
variable {l m:List V} {s:St} {p:Pn} {x y z a b c d x' y' z' u v w g:V} {pr:List (List V)} {k:List V} {H H' K:Heap} {i:Nat} {pc tk ft:Int} {rep:V}
theorem NewT_a {vis:Nat → Bool} {m:M V} {T:V → V} {sz:Nat} {rows:List (List V)} {Q:V → Heap → Prop} (hv:∀ l,l < H.next → vis l = true) (hf:H.floor ≤ H.next)
  (h:∀ K:Heap,K.next = H.next → K.floor ≤ K.next → (∀ l,l < H.next → K.blk l = H.blk l) → Run m K fun y K' => ∃ mv,y = T mv ∧ New K sz rows mv K')
  (q:∀ mv H',Own H' mv sz rows → Frame H H' (fun _ => False) → (∀ l,loc mv = some l → H.next ≤ l ∧ l < H'.next) → Q (T mv) H'):Run (qrun vis m) H Q:=by
 refine Run.qAll (P:=fun y K' => ∃ mv,y = T mv ∧ Own K' mv sz rows ∧ ∀ l,loc mv = some l → H.next ≤ l) hv (fun K k1 k2 k3 => (h K k1 k2 k3).mono fun y K' ⟨mv,e,o,f,l⟩ => ⟨f,mv,e,o,fun t ht => by rw [← k1]; exact l t ht⟩) fun y K' H' ⟨mv,e,o,l⟩ f hb hn => ?_
 subst e
 have o':Own H' mv sz rows:=own_fl o hb hn fun t ht => by rw [f.floor]; exact Nat.le_trans hf (l t ht)
 exact q mv H' o' f fun t ht => ⟨l t ht,o'.loc_lt ht⟩
set_option maxRecDepth 20000 in
theorem reg_q {vis:Nat → Bool} (nn:Nat) (h:ClX H i p s pc tk rep ft a b c d x y z u v w g pr) {n:Nat} (hn:n < 16) (hv:∀ q,q < H.next → vis q = true) {Q:V → Heap → Prop}
  (q:∀ H',H'.next = H.next → Frame H H' (fun _ => False) → Q (.int .u32 (regAt s pc n)) H'):Run (qrun vis (callV (cfg G) (sem (cfg G) (nn + 1)) 89 [.ptr i 0 0,.int .i64 (n:Nat)])) H Q:=by
 refine Run.qAll (P:=fun r K' => r = .int .u32 (regAt s pc n) ∧ K'.next = H.next) hv (fun K k1 k2 k3 => ?_) fun r K' H' ⟨e,e2⟩ f _ hn' => ?_
 ·obtain ⟨lx,bk,qq,h1,h2,h3,h4,h5,h6,h7,h8,h9,h10⟩:=h.proc
  have hb:=(k3 i h.lt).trans h.blk
  have h3':=(k3 lx (h.lt_fp h10)).trans h3
  rw [callV_inl rfl,ferry_sys_caller_reg_eq]
  simp only [ferry_sys_caller_reg]
  have hr:=prRow_reg h7 hn
  (repeat' (first | (simp only [wp,extractV,w0,reduceIte,Nat.reduceAdd,Nat.reduceLT,Nat.reduceLeDiff,Nat.reduceEqDiff,hb,nil_ptr,h2,aidx16 hn,h3',h4,hr]) | (with_reducible ((first | apply xC | apply xG | apply xQ) <;> intro hb <;> try simp only [hb]))))
  have e:regAt s pc n = (qq.regs[n]?).getD 0:=by
   unfold regAt
   rw [h6]
   rfl
  rw [← e]
  exact ⟨Frame.refl _ _,rfl,k1⟩
 ·subst e
  exact q _ (hn'.trans e2) f
set_option maxRecDepth 20000 in
theorem out_q {vis:Nat → Bool} (nn:Nat) {ps:List Pa} (ho:Own H g 66 (ps.map paR)) (hr:ps.length * 80 ≤ room) (hd:∀ p ∈ ps,p.data.length = 64) (hb:ByOk ps) {at':Nat} (ha:at' < 4294967296) {m:Nat} (hm:m ≤ room) (hv:∀ q,q < H.next → vis q = true) {Q:V → Heap → Prop}
  (q:∀ H',H'.next = H.next → Frame H H' (fun _ => False) → Q (.tuple [.str (bs (if spanB ps 1 4 at' m = 0 then outP ps at' m else [])),i64 (spanB ps 1 4 at' m),.nili]) H'):Run (qrun vis (callV (cfg G) (sem (cfg G) (nn + 3)) 13 [g,.int .u32 (at':Nat),i64 (m:Nat)])) H Q:=by
 refine Run.qAll (P:=fun r K' => r = .tuple [.str (bs (if spanB ps 1 4 at' m = 0 then outP ps at' m else [])),i64 (spanB ps 1 4 at' m),.nili] ∧ K'.next = H.next) hv (fun K k1 k2 k3 => ?_) fun r K' H' ⟨e,e2⟩ f _ hn' => ?_
 ·obtain ⟨yy,e,hs⟩:=thawV_at ho (flat_pas _) k3
  refine Run.ans rfl (bs:=[yy,.int .u32 (at':Nat),i64 (m:Nat)]) ?_ (out_says nn hs hr hd hb ha hm) fun r er => ⟨Frame.refl _ _,er,k1⟩
  simp only [List.mapM_cons,List.mapM_nil,e]
  rfl
 ·subst e
  exact q _ (hn'.trans e2) f
theorem conv_u32a {n:Int} (h0:0 ≤ n) (h:n < 4294967296) {k:IntKind}:convI .u32 (.int k n) = some (.int .u32 n):=by
 have:IntKind.u32.wrap n = n:=Go.IntWalk.u32_in _ ⟨h0,by omega⟩
 simp [convI,this]
theorem PoS.closedV {row:List V} {q:Po} (h:PoS row q):(V.agg row).closedV = true:=by
 obtain ⟨m,rfl,hm,_⟩:=h
 show ([m,i64 q.age]:List V).all V.closed = true
 simp only [List.all_cons,List.all_nil,hm.closed]
 rfl
theorem tp_closedV (q:Tp):(V.agg (tpR q)).closedV = true:=rfl
theorem outP_len {ps:List Pa} {a n:Nat}:(outP ps a n).length = n:=by unfold outP; rw [List.length_map,List.length_range]
def wrote (s:St) (n:Nat) (q:Po) (dt:List UInt8):St:={ s with ports:=s.ports.set n ⟨q.msgs ++ [bs dt],0⟩ }
def doWrite (s:St) (pc:Int) (n:Nat) (q:Tp) (r:Po):St :=
 if (r.msgs.length:Int) < q.depth then setR (wrote s n r (outP s.pages (regAt s pc 2).toNat (regAt s pc 3).toNat)) pc 1 0 else setR s pc 1 4294967293
set_option maxRecDepth 20000 in
set_option maxHeartbeats 2000000 in
theorem write_run (hA:BErrs G) (nn:Nat) (h:ClX H i p s pc tk rep ft a b c d x y z u v w g pr) (hf:H.floor = 0) (hc:Can s pc tk) {n:Nat} (hn:regAt s pc 1 = (n:Nat)) {q:Tp} {r:Po} (hq:p.ports[n]? = some q) (hr:s.ports[n]? = some r) (hqk:q.kind = 4) (hT:TpOk q) (hh:holdOk q r) (hag:ageOk q r)
  (hsz:regAt s pc 3 ≤ q.size) (hby:ByOk s.pages) (hsp:spanB s.pages 1 4 (regAt s pc 2).toNat (regAt s pc 3).toNat = 0) :
  Run (callV (cfg G) (sem (cfg G) (nn + 10)) 52 [.ptr i 0 0]) H fun r' H' => r' = .tuple [] ∧ Cl H i p (doWrite s pc n q r) pc tk rep ft (fp i x y z u v w g pr) H':=by
 have hb:=h.blk
 obtain ⟨lp,pn⟩:=h.pn
 obtain ⟨hnp,eq⟩:=List.getElem?_eq_some_iff.1 hq
 have hlen:lenV c = some (i64 (p.ports.length:Int)):=by rw [pn.ports.len,List.length_map]
 have hbig:(p.ports.length:Int) ≤ 9223372036854775807:=by have:=pn.big.2.2.1; unfold big at this; omega
 have hix:=pn.ports.idx (k:=.i64) (i:=n) (by rw [List.length_map]; exact hnp)
 rw [List.getElem_map,eq] at hix
 rw [callV_inl rfl,ferry_sys_caller_write_eq]
 simp only [ferry_sys_caller_write]
 (repeat' (first | (simp only [wp,extractV,w0,reduceIte,Nat.reduceAdd,Nat.reduceLT,Nat.reduceLeDiff,Nat.reduceEqDiff,hb,nil_ptr,hlen]) | (with_reducible ((first | apply xC | apply xG | apply xQ) <;> intro hb <;> try simp only [hb]))))
 refine index_run (nn + 7) h hf (hc.reg 1 (by decide)) ⟨Int.natCast_nonneg _,hbig⟩ (fun _ => ?_) fun g1 => absurd g1 (by rw [hn]; omega)
 rw [hn]
 (repeat' (first | (simp only [wp,extractV,w0,reduceIte,Nat.reduceAdd,Nat.reduceLT,Nat.reduceLeDiff,Nat.reduceEqDiff]) | (with_reducible ((first | apply xC | apply xG | apply xQ) <;> intro hb <;> try simp only [hb]))))
 refine (isOne_run (nn + 7) h hq (k1:=2) (k2:=4) (.inr hqk)).mono fun r0 H0 ⟨e1,e2⟩ => ?_
 subst e1 e2
 have t1:(tpR q)[1]? = some (i64 q.size):=rfl
 have t2:(tpR q)[2]? = some (i64 q.depth):=rfl
 have t0:(tpR q)[0]? = some (i64 q.kind):=rfl
 have fl:H0.floor ≤ H0.next:=by rw [hf]; exact Nat.zero_le _
 (repeat' (first | (simp only [wp,extractV,w0,reduceIte,Nat.reduceAdd,Nat.reduceLT,Nat.reduceLeDiff,Nat.reduceEqDiff,hb,nil_ptr,hix,fl,tp_len,tp_take]) | (with_reducible ((first | apply xC | apply xG | apply xQ) <;> intro hb <;> try simp only [hb]))))
 obtain ⟨r20,r21⟩:=hc.reg 2 (by decide)
 obtain ⟨r30,r31⟩:=hc.reg 3 (by decide)
 obtain ⟨a2,ha2⟩:∃ a2:Nat,regAt s pc 2 = (a2:Nat):=⟨(regAt s pc 2).toNat,by omega⟩
 obtain ⟨a3,ha3⟩:∃ a3:Nat,regAt s pc 3 = (a3:Nat):=⟨(regAt s pc 3).toNat,by omega⟩
 unfold doWrite
 rw [ha2,ha3,Int.toNat_natCast,Int.toNat_natCast] at hsp ⊢
 rw [ha3] at hsz
 rw [ha2] at r21
 have hq32:1 ≤ q.size ∧ q.size ≤ 32:=hT.2.1
 have hdep:q.depth ≤ 8:=by have h1:=hT.2.2.1.2; split at h1 <;> omega
 have f1:Frame H0 ((H0.add ⟨4,[[V.int .i64 0,V.int .i64 0,V.int .i64 0,V.int .i64 0]]⟩).set H0.next ⟨4,[tpR q]⟩) (fun _ => False):=(Frame.add _ _).st (Nat.le_refl _) _
 have b4:((H0.add ⟨4,[[V.int .i64 0,V.int .i64 0,V.int .i64 0,V.int .i64 0]]⟩).set H0.next ⟨4,[tpR q]⟩).blk H0.next = some ⟨4,[tpR q]⟩:=by rw [Heap.set_blk,if_pos rfl]
 have n1:((H0.add ⟨4,[[V.int .i64 0,V.int .i64 0,V.int .i64 0,V.int .i64 0]]⟩).set H0.next ⟨4,[tpR q]⟩).next = H0.next + 1:=rfl
 generalize (H0.add ⟨4,[[V.int .i64 0,V.int .i64 0,V.int .i64 0,V.int .i64 0]]⟩).set H0.next ⟨4,[tpR q]⟩ = H1 at *
 have hx1:=h.frame f1 fun _ _ => id
 refine reg_q (nn + 8) hx1 (n:=3) (by decide) (fun q hq => visB_low (by omega) _) fun H2 n2 f2 => ?_
 have f12:=f1.tr f2
 have hx2:=h.frame f12 fun _ _ => id
 have b4:=(f2.old H0.next (by omega) id).trans b4
 have fl2:H2.floor = 0:=f12.floor.trans hf
 rw [ha3]
 have cz:convI .u32 (i64 q.size) = some (.int .u32 q.size):=conv_u32a (by omega) (by omega)
 have d1:decide (q.size < ((a3:Nat):Int)) = false:=by rw [decide_eq_false_iff_not]; omega
 have d2:(q.kind == 4) = true:=by simpa using hqk
 obtain ⟨lw,bw,row,w1,w2,w3,w4,w5,w6,w7,w8,w9,w10,w11,w12⟩:=clPort hx2 hr
 obtain ⟨mv,rfl,om,hml⟩:=id w7
 have hb2:=hx2.blk
 have hlm:=om.len
 rw [List.length_map] at hlm
 by_cases hlt:(r.msgs.length:Int) < q.depth
 ·have d3:decide (q.depth ≤ (r.msgs.length:Int)) = false:=by rw [decide_eq_false_iff_not]; omega
  rw [if_pos hlt]
  (repeat' (first | (simp only [wp,extractV,w0,reduceIte,Nat.reduceAdd,Nat.reduceLT,Nat.reduceLeDiff,Nat.reduceEqDiff,b4,t0,t1,t2,cz,d1,d2,d3,hb2,nil_ptr,w2,w3,w4,hlm]) | (with_reducible ((first | apply xC | apply xG | apply xQ) <;> intro hb <;> try simp only [hb]))))
  refine reg_q (nn + 8) hx2 (n:=2) (by decide) (fun q hq => visB_low hq _) fun H3 n3 f3 => ?_
  rw [ha2]
  have hx3:=hx2.frame f3 fun _ _ => id
  refine reg_q (nn + 8) hx3 (n:=3) (by decide) (fun q hq => visB_low (by omega) _) fun H4 n4 f4 => ?_
  rw [ha3]
  have f34:=f3.tr f4
  have hx4:=hx2.frame f34 fun _ _ => id
  have c64:convI .i64 (.int .u32 (a3:Nat)) = some (i64 (a3:Nat)):=conv_i64 (by omega) (by omega)
  (repeat' (first | (simp only [wp,extractV,w0,reduceIte,Nat.reduceAdd,Nat.reduceLT,Nat.reduceLeDiff,Nat.reduceEqDiff,c64]) | (with_reducible ((first | apply xC | apply xG | apply xQ) <;> intro hb <;> try simp only [hb]))))
  obtain ⟨l4,ms4⟩:=hx4.ms
  have hrm:room = 140737488355328:=rfl
  refine out_q (nn + 6) ms4.pages h.sb.pages h.sb.data hby (by omega) (by omega) (fun q hq => visB_low (by omega) _) fun H5 n5 f5 => ?_
  rw [hsp,if_pos rfl]
  have f25:=f34.tr f5
  have hx5:=hx2.frame f25 fun _ _ => id
  have b45:=(f25.old H0.next (by omega) id).trans b4
  have hb5:=hx5.blk
  have w35:=(f25.old lw w11 id).trans w3
  (repeat' (first | (simp only [wp,extractV,w0,reduceIte,Nat.reduceAdd,Nat.reduceLT,Nat.reduceLeDiff,Nat.reduceEqDiff,beq_self_eq_true,b45,tp_len,tp_take,hb5,nil_ptr,w2,w35,w4]) | (with_reducible ((first | apply xC | apply xG | apply xQ) <;> intro hb <;> try simp only [hb]))))
  have hfl5:H5.floor = 0:=f25.floor.trans fl2
  refine NewT_a (T:=fun m' => .tuple [.agg [m',i64 0],.nili]) (sz:=1) (rows:=(r.msgs ++ [bs (outP s.pages a2 a3)]).map stR) (fun q hq => visB_low hq _) (by rw [hfl5]; exact Nat.zero_le _) (fun K k1 k2 k3 => ?_) fun m' H6 o6 f6 l6 => ?_
  ·obtain ⟨row',er,hrow⟩:=po_thaw (K:=K) (w7.frame f25 fun _ _ => id) k3
   refine Run.callOwn rfl (bs:=[.agg (tpR q),.agg row',.str (bs (outP s.pages a2 a3))]) ?_ ?_ (pwrite_run hA (nn + 2) hrow hT hh hag hqk (by omega) (by rw [outP_len]; exact hsz) hlt k2)
   ·simp only [List.mapM_cons,List.mapM_nil,er,thawV_closed (tp_closedV q)]
    rfl
   ·simp only [List.all_cons,List.all_nil,hrow.closedV,tp_closedV]
    rfl
  ·have hx6:=hx5.frame f6 fun _ _ => id
   have hb6:=hx6.blk
   have n56:=f6.next
   have w36:=(f6.old lw (by omega) id).trans w35
   have hi6:=hx5.lt
   have g1:¬ (i = H6.next):=by omega
   have g2:¬ (lw = H6.next):=by omega
   have g3:H6.floor ≤ H6.next:=by rw [f6.floor,hfl5]; exact Nat.zero_le _
   have g4:H6.floor ≤ lw:=by rw [f6.floor,hfl5]; exact Nat.zero_le _
   (repeat' (first | (simp only [wp,extractV,w0,reduceIte,Nat.reduceAdd,Nat.reduceLT,Nat.reduceLeDiff,Nat.reduceEqDiff,eq_nili,g1,g2,g3,g4,hb6,nil_ptr,w2,w36,w4]) | (with_reducible ((first | apply xC | apply xG | apply xQ) <;> intro hb <;> try simp only [hb]))))
   have f67:Frame H6 ((H6.add ⟨2,[[V.nils,V.int .i64 0]]⟩).set H6.next ⟨2,[[m',i64 0]]⟩) (fun _ => False):=(Frame.add _ _).st (Nat.le_refl _) _
   have w37:((H6.add ⟨2,[[V.nils,V.int .i64 0]]⟩).set H6.next ⟨2,[[m',i64 0]]⟩).blk lw = some bw:=(f67.old lw (by omega) id).trans w36
   generalize (H6.add ⟨2,[[V.nils,V.int .i64 0]]⟩).set H6.next ⟨2,[[m',i64 0]]⟩ = H7 at *
   have hx7:=hx6.frame f67 fun _ _ => id
   have hfr:∀ t,loc m' = some t → t ∉ fp i x y z u v w g pr:=fun t ht hm => by
    have h1:=(l6 t ht).1
    have h2:=hx5.lt_fp hm
    omega
   have hx8:=putPort (q:=⟨r.msgs ++ [bs (outP s.pages a2 a3)],0⟩) hx7 hr w1 w37 (o6.frame f67 fun _ _ => id) (by simp only [List.length_append,List.length_singleton]; omega) hfr
   have f07:Frame H0 H7 (fun _ => False):=((f12.tr f25).tr f6).tr f67
   have fl7:H7.floor = 0:=f07.floor.trans hf
   refine (answer_run (nn + 8) hx8 fl7 0).mono fun r' H9 ⟨_,hC9⟩ => ?_
   (repeat' (first | (simp only [wp,extractV,w0,reduceIte,Nat.reduceAdd,Nat.reduceLT,Nat.reduceLeDiff,Nat.reduceEqDiff]) | (with_reducible ((first | apply xC | apply xG | apply xQ) <;> intro hb <;> try simp only [hb]))))
   refine cl_comp (F1:=fp i x y z u v w g (pr.set n [m',i64 0])) (fun t ht => ?_) ?_ hC9
   ·rcases putPort_fp (q:=⟨[],0⟩) ht with h1 | h1
    ·exact .inl h1
    ·have h2:=(l6 t h1).1
     have h3:=(f12.tr f25).next
     exact .inr (by omega)
   ·refine ⟨f07.next,f07.floor,fun t h1 h2 => ?_⟩
    rw [Heap.set_blk,if_neg fun e:t = lw => h2 (e ▸ w12)]
    exact f07.old t h1 id
 ·have d3:decide (q.depth ≤ (r.msgs.length:Int)) = true:=by rw [decide_eq_true_eq]; omega
  rw [if_neg hlt]
  (repeat' (first | (simp only [wp,extractV,w0,reduceIte,Nat.reduceAdd,Nat.reduceLT,Nat.reduceLeDiff,Nat.reduceEqDiff,b4,t0,t1,t2,cz,d1,d2,d3,hb2,nil_ptr,w2,w3,w4,hlm]) | (with_reducible ((first | apply xC | apply xG | apply xQ) <;> intro hb <;> try simp only [hb]))))
  refine (answer_run (nn + 8) hx2 fl2 _).mono fun r' H4 ⟨_,hC4⟩ => ?_
  (repeat' (first | (simp only [wp,extractV,w0,reduceIte,Nat.reduceAdd,Nat.reduceLT,Nat.reduceLeDiff,Nat.reduceEqDiff]) | (with_reducible ((first | apply xC | apply xG | apply xQ) <;> intro hb <;> try simp only [hb]))))
  exact cl_comp (F1:=fp i x y z u v w g pr) (fun q hq => .inl hq) (f12.mono fun _ _ g => g.elim) hC4
end Sy
end Go.Fv.Tr
