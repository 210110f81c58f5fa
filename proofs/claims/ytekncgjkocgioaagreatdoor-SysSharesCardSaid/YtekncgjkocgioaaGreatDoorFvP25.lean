/-
  What the functions of the layer 9 answer: those that make memory of their own. By an AI agent; no person has read it.
-/
import Derived.Test.YtekncgjkocgioaaGreatDoorFvP24
set_option linter.unusedVariables false
set_option linter.unusedSimpArgs false
set_option linter.unusedSectionVars false
/-! What the functions of the layer 9 answer: those that make memory of their own. -/
namespace Go.Fv.Tr
open Go Go.Fv Go.Fv.Pl Go.Proofs
variable {G:GV}
theorem flat_pr (ps:List Pr):flatRows (ps.map prRow) = true:=by
 simp [flatRows,prRow,V.flat]
theorem flat_ir (q:List Int):flatRows (q.map intRow) = true:=by
 simp [flatRows,intRow,V.flat]
theorem flat_tm (ts:List Tm):flatRows (ts.map tmRow) = true:=by
 simp [flatRows,tmRow,V.flat]
theorem eq_slnil {c:Bool}:eqV .slice c .nils .nils = some true:=rfl
theorem eq_slemp {c:Bool}:eqV .slice c .emp .nils = some false:=rfl
theorem eq_slimm {c:Bool} {sz:Nat} {rows:List (List V)}:eqV .slice c (.imm sz rows) .nils = some false:=rfl
def New (H:Heap) (sz:Nat) (rows:List (List V)) (x:V) (H':Heap):Prop:=Own H' x sz rows ∧ Frame H H' (fun _ => False) ∧ ∀ l,loc x = some l → H.next ≤ l
theorem clone72 (n:Nat) {x:V} {rows:List (List V)} (hx:Sls x 21 rows) (hf:flatRows rows = true) (hr:rows.length * 104 ≤ room) {H:Heap} (hH:H.floor ≤ H.next) :
  Run (callV (cfg G) (sem (cfg G) (n + 1)) 54 [x]) H (New H 21 rows):=by
 refine callV_own rfl (mapM_closedV (by simp [hx.closedV]) H) ?_
 rw [slices_Clone_ferry_api_Proc_ferry_api_Proc_eq]
 simp only [slices_Clone_ferry_api_Proc_ferry_api_Proc]
 rcases hx with rfl | ⟨rfl,rfl | rfl⟩
 ·(repeat' (first | (simp only [wp,extractV,w0,reduceIte,Nat.reduceAdd,Nat.reduceLT,Nat.reduceLeDiff,Nat.reduceEqDiff,eq_slimm,Run.slice0]) | (with_reducible ((first | apply xC | apply xG | apply xQ) <;> intro hb <;> try simp only [hb]))))
  refine (Run.app (bytes:=104) (Nat.le_refl _) (Own.emp _ _) (Sls.items (Sls.imm _ _) _) (by simpa using hr)).mono fun x' H' ⟨o,_,_⟩ => ?_
  (repeat' (first | (simp only [wp,extractV,w0,reduceIte,Nat.reduceAdd,Nat.reduceLT,Nat.reduceLeDiff,Nat.reduceEqDiff]) | (with_reducible ((first | apply xC | apply xG | apply xQ) <;> intro hb <;> try simp only [hb]))))
  exact o.hand hf hH
 ·(repeat' (first | (simp only [wp,extractV,w0,reduceIte,Nat.reduceAdd,Nat.reduceLT,Nat.reduceLeDiff,Nat.reduceEqDiff,eq_slnil]) | (with_reducible ((first | apply xC | apply xG | apply xQ) <;> intro hb <;> try simp only [hb]))))
  exact (Own.nils _ _).hand hf hH
 ·(repeat' (first | (simp only [wp,extractV,w0,reduceIte,Nat.reduceAdd,Nat.reduceLT,Nat.reduceLeDiff,Nat.reduceEqDiff,eq_slemp,Run.slice0]) | (with_reducible ((first | apply xC | apply xG | apply xQ) <;> intro hb <;> try simp only [hb]))))
  refine (Run.app (bytes:=104) (Nat.le_refl _) (Own.emp _ _) (Sls.items (Sls.emp _) _) (by simp)).mono fun x' H' ⟨o,_,_⟩ => ?_
  (repeat' (first | (simp only [wp,extractV,w0,reduceIte,Nat.reduceAdd,Nat.reduceLT,Nat.reduceLeDiff,Nat.reduceEqDiff]) | (with_reducible ((first | apply xC | apply xG | apply xQ) <;> intro hb <;> try simp only [hb]))))
  exact o.hand hf hH
theorem clone73 (n:Nat) {x:V} {rows:List (List V)} (hx:Sls x 1 rows) (hf:flatRows rows = true) (hr:rows.length * 8 ≤ room) {H:Heap} (hH:H.floor ≤ H.next) :
  Run (callV (cfg G) (sem (cfg G) (n + 1)) 55 [x]) H (New H 1 rows):=by
 refine callV_own rfl (mapM_closedV (by simp [hx.closedV]) H) ?_
 rw [slices_Clone_int_int_eq]
 simp only [slices_Clone_int_int]
 rcases hx with rfl | ⟨rfl,rfl | rfl⟩
 ·(repeat' (first | (simp only [wp,extractV,w0,reduceIte,Nat.reduceAdd,Nat.reduceLT,Nat.reduceLeDiff,Nat.reduceEqDiff,eq_slimm,Run.slice0]) | (with_reducible ((first | apply xC | apply xG | apply xQ) <;> intro hb <;> try simp only [hb]))))
  refine (Run.app (bytes:=8) (Nat.le_refl _) (Own.emp _ _) (Sls.items (Sls.imm _ _) _) (by simpa using hr)).mono fun x' H' ⟨o,_,_⟩ => ?_
  (repeat' (first | (simp only [wp,extractV,w0,reduceIte,Nat.reduceAdd,Nat.reduceLT,Nat.reduceLeDiff,Nat.reduceEqDiff]) | (with_reducible ((first | apply xC | apply xG | apply xQ) <;> intro hb <;> try simp only [hb]))))
  exact o.hand hf hH
 ·(repeat' (first | (simp only [wp,extractV,w0,reduceIte,Nat.reduceAdd,Nat.reduceLT,Nat.reduceLeDiff,Nat.reduceEqDiff,eq_slnil]) | (with_reducible ((first | apply xC | apply xG | apply xQ) <;> intro hb <;> try simp only [hb]))))
  exact (Own.nils _ _).hand hf hH
 ·(repeat' (first | (simp only [wp,extractV,w0,reduceIte,Nat.reduceAdd,Nat.reduceLT,Nat.reduceLeDiff,Nat.reduceEqDiff,eq_slemp,Run.slice0]) | (with_reducible ((first | apply xC | apply xG | apply xQ) <;> intro hb <;> try simp only [hb]))))
  refine (Run.app (bytes:=8) (Nat.le_refl _) (Own.emp _ _) (Sls.items (Sls.emp _) _) (by simp)).mono fun x' H' ⟨o,_,_⟩ => ?_
  (repeat' (first | (simp only [wp,extractV,w0,reduceIte,Nat.reduceAdd,Nat.reduceLT,Nat.reduceLeDiff,Nat.reduceEqDiff]) | (with_reducible ((first | apply xC | apply xG | apply xQ) <;> intro hb <;> try simp only [hb]))))
  exact o.hand hf hH
theorem clone74 (n:Nat) {x:V} {rows:List (List V)} (hx:Sls x 2 rows) (hf:flatRows rows = true) (hr:rows.length * 16 ≤ room) {H:Heap} (hH:H.floor ≤ H.next) :
  Run (callV (cfg G) (sem (cfg G) (n + 1)) 56 [x]) H (New H 2 rows):=by
 refine callV_own rfl (mapM_closedV (by simp [hx.closedV]) H) ?_
 rw [slices_Clone_ferry_api_Timer_ferry_api_Timer_eq]
 simp only [slices_Clone_ferry_api_Timer_ferry_api_Timer]
 rcases hx with rfl | ⟨rfl,rfl | rfl⟩
 ·(repeat' (first | (simp only [wp,extractV,w0,reduceIte,Nat.reduceAdd,Nat.reduceLT,Nat.reduceLeDiff,Nat.reduceEqDiff,eq_slimm,Run.slice0]) | (with_reducible ((first | apply xC | apply xG | apply xQ) <;> intro hb <;> try simp only [hb]))))
  refine (Run.app (bytes:=16) (Nat.le_refl _) (Own.emp _ _) (Sls.items (Sls.imm _ _) _) (by simpa using hr)).mono fun x' H' ⟨o,_,_⟩ => ?_
  (repeat' (first | (simp only [wp,extractV,w0,reduceIte,Nat.reduceAdd,Nat.reduceLT,Nat.reduceLeDiff,Nat.reduceEqDiff]) | (with_reducible ((first | apply xC | apply xG | apply xQ) <;> intro hb <;> try simp only [hb]))))
  exact o.hand hf hH
 ·(repeat' (first | (simp only [wp,extractV,w0,reduceIte,Nat.reduceAdd,Nat.reduceLT,Nat.reduceLeDiff,Nat.reduceEqDiff,eq_slnil]) | (with_reducible ((first | apply xC | apply xG | apply xQ) <;> intro hb <;> try simp only [hb]))))
  exact (Own.nils _ _).hand hf hH
 ·(repeat' (first | (simp only [wp,extractV,w0,reduceIte,Nat.reduceAdd,Nat.reduceLT,Nat.reduceLeDiff,Nat.reduceEqDiff,eq_slemp,Run.slice0]) | (with_reducible ((first | apply xC | apply xG | apply xQ) <;> intro hb <;> try simp only [hb]))))
  refine (Run.app (bytes:=16) (Nat.le_refl _) (Own.emp _ _) (Sls.items (Sls.emp _) _) (by simp)).mono fun x' H' ⟨o,_,_⟩ => ?_
  (repeat' (first | (simp only [wp,extractV,w0,reduceIte,Nat.reduceAdd,Nat.reduceLT,Nat.reduceLeDiff,Nat.reduceEqDiff]) | (with_reducible ((first | apply xC | apply xG | apply xQ) <;> intro hb <;> try simp only [hb]))))
  exact o.hand hf hH
structure OwnTab (H:Heap) (x y z:V) (t:Tab):Prop where
 p:Own H x 21 (t.ps.map prRow)
 q:Own H y 1 (t.q.map intRow)
 s:Own H z 2 (t.ts.map tmRow)
 pq:∀ l,loc x = some l → loc y ≠ some l
 ps:∀ l,loc x = some l → loc z ≠ some l
 qs:∀ l,loc y = some l → loc z ≠ some l
def NewTab (H:Heap) (t:Tab) (v:V) (H':Heap):Prop :=
 ∃ x y z,v = .agg [x,y,z] ∧ OwnTab H' x y z t ∧ Frame H H' (fun _ => False) ∧ ∀ l,loc x = some l ∨ loc y = some l ∨ loc z = some l → H.next ≤ l
theorem OwnTab.gives {H:Heap} {x y z:V} {t:Tab} (h:OwnTab H x y z t):∃ a b c ls,Fv.gives H [x,y,z] [] = some ([a,b,c],ls) ∧ Gv a 21 (t.ps.map prRow) ∧ Gv b 1 (t.q.map intRow) ∧ Gv c 2 (t.ts.map tmRow):=by
 obtain ⟨a,a1,a2⟩:=h.p.give (flat_pr _) (ls:=[]) (fun _ _ => by simp)
 obtain ⟨b,b1,b2⟩:=h.q.give (flat_ir _) (ls:=(loc x).toList ++ []) (fun l hl hm => by
  cases hx:loc x with
  | none => rw [hx] at hm; simp at hm
  | some l' => rw [hx] at hm; simp at hm; subst hm; exact h.pq _ hx hl)
 obtain ⟨c,c1,c2⟩:=h.s.give (flat_tm _) (ls:=(loc y).toList ++ ((loc x).toList ++ [])) (fun l hl hm => by
  rcases List.mem_append.1 hm with g | g
  ·cases hy:loc y with
   | none => rw [hy] at g; simp at g
   | some l' => rw [hy] at g; simp at g; subst g; exact h.qs _ hy hl
  ·cases hx:loc x with
   | none => rw [hx] at g; simp at g
   | some l' => rw [hx] at g; simp at g; subst g; exact h.ps _ hx hl)
 exact ⟨a,b,c,_,by simp only [Fv.gives,a1,b1,c1,Option.bind_some]; rfl,a2,b2,c2⟩
theorem takes_tab {H:Heap} {a b c:V} {t:Tab} (ha:Gv a 21 (t.ps.map prRow)) (hb:Gv b 1 (t.q.map intRow)) (hc:Gv c 2 (t.ts.map tmRow)) (hH:H.floor ≤ H.next) :
  Run (takes [a,b,c]) H fun l H' => NewTab H t (.agg l) H':=by
 have r1:=ha.take hH
 simp only [takes,Run.bind]
 refine r1.mono fun x H1 ⟨o1,f1,l1⟩ => ?_
 refine (hb.take (by rw [f1.floor]; exact Nat.le_trans hH f1.next)).mono fun y H2 ⟨o2,f2,l2⟩ => ?_
 refine (hc.take (by rw [f2.floor,f1.floor]; exact Nat.le_trans hH (Nat.le_trans f1.next f2.next))).mono fun z H3 ⟨o3,f3,l3⟩ => ?_
 simp only [Run.ret]
 refine ⟨x,y,z,rfl,⟨(o1.frame f2 (fun _ _ h => h)).frame f3 (fun _ _ h => h),o2.frame f3 (fun _ _ h => h),o3,?_,?_,?_⟩,(f1.trans f2 (fun _ _ h => h) (fun _ _ h => h)).trans f3 (fun _ _ h => h) (fun _ _ h => h),?_⟩
 ·intro l hl hl'
  have:=o1.lt hl; have:=l2 l hl'; omega
 ·intro l hl hl'
  have:=o1.lt hl; have:=l3 l hl'; have:=f2.next; omega
 ·intro l hl hl'
  have:=o2.lt hl; have:=l3 l hl'; omega
 ·intro l hl
  have:=f1.next; have:=f2.next
  rcases hl with h | h | h
  ·exact l1 l h
  ·have:=l2 l h; omega
  ·have:=l3 l h; omega
theorem OwnTab.hand {H H':Heap} {x y z:V} {t:Tab} (h:OwnTab H' x y z t) (hH:H.floor ≤ H.next) :
  ∃ g,giveV H' (.agg [x,y,z]) = some g ∧ Run (takeV g) H (NewTab H t):=by
 obtain ⟨a,b,c,ls,e,ha,hb,hc⟩:=h.gives
 refine ⟨.agg [a,b,c],by simp only [giveV,give2,e,Option.bind_some],?_⟩
 simp only [takeV,take2,Run.bind]
 exact (takes_tab ha hb hc hH).mono fun l H1 q => Run.ret.2 q
theorem OwnTab.hand2 {H H':Heap} {x y z e:V} {t:Tab} (h:OwnTab H' x y z t) (he:e = .nili) (hH:H.floor ≤ H.next) :
  ∃ g,giveV H' (.tuple [.agg [x,y,z],e]) = some g ∧ Run (takeV g) H fun v H1 => ∃ u,v = .tuple [u,e] ∧ NewTab H t u H1:=by
 subst he
 obtain ⟨a,b,c,ls,e,ha,hb,hc⟩:=h.gives
 refine ⟨.tuple [.agg [a,b,c],.nili],by simp only [giveV,gives2,give2,e,Option.bind_some,Fv.give,V.flat,if_true],?_⟩
 simp only [takeV,takes2,take2,take1,Run.bind]
 refine (takes_tab ha hb hc hH).mono fun l H1 q => ?_
 simp only [Run.ret]
 refine Run.of rfl ?_
 exact ⟨_,rfl,q⟩
theorem bad_hand {H H':Heap} {g:Nat} {Q:V → Heap → Prop} (q:Q (.tuple [.agg [.nils,.nils,.nils],errV g]) H) :
  ∃ a,giveV H' (.tuple [.agg [.nils,.nils,.nils],errV g]) = some a ∧ Run (takeV a) H Q:=⟨_,rfl,Run.of rfl q⟩
structure Small (t:Tab):Prop where
 p:t.ps.length * 104 ≤ room
 q:t.q.length * 8 ≤ room
 s:t.ts.length * 16 ≤ room
theorem small_of {t:Tab} (h:TabOk t):Small t:=by
 have:=((ROk_iff t).2 h).few
 refine ⟨?_,?_,?_⟩ <;> unfold room <;> omega
theorem copied_spec (n:Nat) {x y z:V} {t:Tab} (h:IsTab x y z t) (hs:Small t) {H:Heap} (hH:H.floor ≤ H.next) :
  Run (callV (cfg G) (sem (cfg G) (n + 2)) 138 [.agg [x,y,z]]) H (NewTab H t):=by
 refine callV_own rfl (mapM_closedV (by simp [h.closed]) H) ?_
 rw [ferry_ready_Table_copied_eq]
 simp only [ferry_ready_Table_copied]
 (repeat' (first | (simp only [wp,extractV,w0,reduceIte,Nat.reduceAdd,Nat.reduceLT,Nat.reduceLeDiff,Nat.reduceEqDiff]) | (with_reducible ((first | apply xC | apply xG | apply xQ) <;> intro hb <;> try simp only [hb]))))
 refine Run.qfresh (Nat.zero_le _) (fun K _ hK => clone72 _ h.p (flat_pr _) (by simpa using hs.p) hK) fun x1 H1 o1 f1 l1 => ?_
 have b0:H1.blk 0 = some ⟨3,[[x,y,z]]⟩:=(f1.old 0 (by simp [Heap.add_next]) id).trans rfl
 have b1:H1.blk 1 = some ⟨3,[[.nils,.nils,.nils]]⟩:=(f1.old 1 (by simp [Heap.add_next,Heap.empty_next]) id).trans rfl
 have n1:2 ≤ H1.next:=f1.next
 have e1:H1.floor = 0:=f1.floor
 (repeat' (first | (simp only [wp,extractV,w0,reduceIte,Nat.reduceAdd,Nat.reduceLT,Nat.reduceLeDiff,Nat.reduceEqDiff,b0]) | (with_reducible ((first | apply xC | apply xG | apply xQ) <;> intro hb <;> try simp only [hb]))))
 refine Run.qfresh (by omega) (fun K _ hK => clone73 _ h.q (flat_ir _) (by simpa using hs.q) hK) fun y1 H2 o2 f2 l2 => ?_
 have c0:H2.blk 0 = some ⟨3,[[x,y,z]]⟩:=(f2.old 0 (by omega) id).trans b0
 have c1:H2.blk 1 = some ⟨3,[[.nils,.nils,.nils]]⟩:=(f2.old 1 (by omega) id).trans b1
 have n2:H1.next ≤ H2.next:=f2.next
 have e2:H2.floor = 0:=f2.floor.trans e1
 (repeat' (first | (simp only [wp,extractV,w0,reduceIte,Nat.reduceAdd,Nat.reduceLT,Nat.reduceLeDiff,Nat.reduceEqDiff,c0]) | (with_reducible ((first | apply xC | apply xG | apply xQ) <;> intro hb <;> try simp only [hb]))))
 refine Run.qfresh (by omega) (fun K _ hK => clone74 _ h.s (flat_tm _) (by simpa using hs.s) hK) fun z1 H3 o3 f3 l3 => ?_
 have d1:H3.blk 1 = some ⟨3,[[.nils,.nils,.nils]]⟩:=(f3.old 1 (by omega) id).trans c1
 have e3:H3.floor = 0:=f3.floor.trans e2
 have n3:H2.next ≤ H3.next:=f3.next
 (repeat' (first | (simp only [wp,extractV,w0,reduceIte,Nat.reduceAdd,Nat.reduceLT,Nat.reduceLeDiff,Nat.reduceEqDiff,buildV,fill,putRow,d1,e3,o1.cells,o2.cells,o3.cells,tupV]) | (with_reducible ((first | apply xC | apply xG | apply xQ) <;> intro hb <;> try simp only [hb]))))
 have s3:∀ {u:V} {sz:Nat} {rows:List (List V)},Own H3 u sz rows → (∀ l,loc u = some l → 2 ≤ l) → Own (H3.set 1 ⟨3,[[x1,y1,z1]]⟩) u sz rows:=fun o hl =>
  o.frame (Frame.set _ 1 (p:=fun k => k = 1) rfl) fun l h e => by have:=hl l h; omega
 have g1:=fun l h => l1 l h
 have g2:=fun l h => l2 l h
 have g3:=fun l h => l3 l h
 have g1':∀ l,loc x1 = some l → 2 ≤ l:=g1
 refine OwnTab.hand ⟨s3 ((o1.frame f2 fun _ _ h => h).frame f3 fun _ _ h => h) g1',s3 (o2.frame f3 fun _ _ h => h) (fun l h => by have:=g2 l h; omega),s3 o3 (fun l h => by have:=g3 l h; omega),?_,?_,?_⟩ hH
 ·intro l h h'; have:=o1.lt h; have:=g2 l h'; omega
 ·intro l h h'; have:=o1.lt h; have:=g3 l h'; omega
 ·intro l h h'; have:=o2.lt h; have:=g3 l h'; omega
def idxI (v:Int):List Int → Nat → Int
 | [],_ => -1
 | a :: l,k => if v = a then (k:Int) else idxI v l (k + 1)
theorem idxI_mem (v : Int) : ∀ (l : List Int) (k : Nat), 0 ≤ idxI v l k ↔ v ∈ l
  | [],k => by simp [idxI]
  | a :: l, k => by
    unfold idxI
    by_cases e:v = a
    · simp [e]
    · rw [if_neg e,idxI_mem v l (k + 1)]
      simp [e]
theorem index_spec (n:Nat) {x:V} {l:List Int} (hx:Sls x 1 (l.map intRow)) (hl:l.length ≤ big) (v:Int):callV (cfg G) (sem (cfg G) (n + 1)) 235 [x,.int .i64 v] = M.ret (.int .i64 (idxI v l 0)):=by
 refine callV_pure0 rfl (by simp [hx.closedV,cI]) rfl ?_
 rw [slices_Index_int_int_eq]
 simp only [slices_Index_int_int]
 (repeat' (first | (simp only [wp,extractV,w0,reduceIte,Nat.reduceAdd,Nat.reduceLT,Nat.reduceLeDiff,Nat.reduceEqDiff,hx.len,List.length_map]) | (with_reducible ((first | apply xC | apply xG | apply xQ) <;> intro hb <;> try simp only [hb]))))
 refine Run.loop (N:=l.length) (fun i s H => s = [.int .i64 0,.int .i64 (i:Nat)] ∧ idxI v l 0 = idxI v (l.drop i) i) (by simp) ?_
 rintro i s H hi ⟨rfl,hd⟩
 by_cases hlt:i < l.length
 ·have h2:=hx.idx (k:=.i64) (i:=i) (by simpa using hlt)
  simp only [List.getElem_map] at h2
  rw [List.drop_eq_getElem_cons hlt,idxI] at hd
  simp only [slices_Index_int_int_l1]
  (repeat' (first | (simp only [wp,extractV,w0,reduceIte,Nat.reduceAdd,Nat.reduceLT,Nat.reduceLeDiff,Nat.reduceEqDiff,ltT hlt,h2,addN hlt hl,ir_at]) | (with_reducible ((first | apply xC | apply xG | apply xQ) <;> intro hb <;> try simp only [hb]))))
  ·have hb':v = l[i]:=by simpa using hb
   rw [if_pos hb'] at hd
   rw [hd]
  ·have hb':v ≠ l[i]:=by simpa using hb
   rw [if_neg hb'] at hd
   exact ⟨hlt,hd⟩
 ·simp only [slices_Index_int_int_l1]
  (repeat' (first | (simp only [wp,extractV,w0,reduceIte,Nat.reduceAdd,Nat.reduceLT,Nat.reduceLeDiff,Nat.reduceEqDiff,ltF hlt]) | (with_reducible ((first | apply xC | apply xG | apply xQ) <;> intro hb <;> try simp only [hb]))))
  rw [List.drop_of_length_le (by omega)] at hd
  rw [hd]; rfl
theorem contains_spec (n:Nat) {x:V} {l:List Int} (hx:Sls x 1 (l.map intRow)) (hl:l.length ≤ big) (v:Int):callV (cfg G) (sem (cfg G) (n + 2)) 194 [x,.int .i64 v] = M.ret (.bool (decide (v ∈ l))):=by
 refine callV_pure0 rfl (by simp [hx.closedV,cI]) rfl ?_
 rw [slices_Contains_int_int_eq]
 simp only [slices_Contains_int_int]
 (repeat' (first | (simp only [wp,extractV,w0,reduceIte,Nat.reduceAdd,Nat.reduceLT,Nat.reduceLeDiff,Nat.reduceEqDiff,index_spec _ hx hl]) | (with_reducible ((first | apply xC | apply xG | apply xQ) <;> intro hb <;> try simp only [hb]))))
 exact boolE (idxI_mem v l 0)
def badV (g:Nat):V:=.tuple [.agg [.nils,.nils,.nils],errV g]
def inOk (t:Tab) (p:Int) (ss:List Int):Prop:=∃ q,at? t.ps p = some q ∧ q.state ∈ ss
theorem in_spec (hG:Errs G) (n:Nat) {x y z w:V} {t:Tab} (h:IsTab x y z t) (p:Int) {ss:List Int} (hw:Sls w 1 (ss.map intRow)) (hss:ss.length ≤ big) {H:Heap} (hH:H.floor ≤ H.next) {args:List V}
  (ha:args.mapM (thawV true H) = some [.agg [x,y,z],.int .i64 p,w]) :
  Run (callV (cfg G) (sem (cfg G) (n + 7)) 133 args) H fun v H' => (TabOk t ∧ inOk t p ss ∧ ∃ u,v = .tuple [u,.nili] ∧ NewTab H t u H') ∨ (¬ TabOk t ∧ v = badV 2 ∧ H' = H) ∨ (TabOk t ∧ ¬ inOk t p ss ∧ v = badV 0 ∧ H' = H):=by
 refine callV_own rfl ha ?_
 rw [ferry_ready_in_eq]
 by_cases hok:TabOk t
 ·by_cases hp:0 ≤ p ∧ p < t.ps.length
  ·have e0:decide (p < 0) = false:=by simp; omega
   have e1:decide ((t.ps.length:Int) ≤ p) = false:=by simp; omega
   have hp':at? t.ps p = some (t.ps[p.toNat]'(by omega)):=at?_some.2 ⟨hp.1,List.getElem?_eq_getElem _⟩
   obtain ⟨i1,w1⟩:=h.at hp'
   simp only [ferry_ready_in]
   (repeat' (first | (simp only [wp,extractV,w0,reduceIte,Nat.reduceAdd,Nat.reduceLT,Nat.reduceLeDiff,Nat.reduceEqDiff,ready_good_spec hG _ h,decide_eq_true hok,h.p.len,List.length_map,e0,e1,i1,pr_state w1,contains_spec _ hw hss]) | (with_reducible ((first | apply xC | apply xG | apply xQ) <;> intro hb <;> try simp only [hb]))))
   ·refine (copied_spec _ h (small_of hok) (Nat.zero_le _)).mono fun v H1 ⟨a,b,c,ev,o,f,l⟩ => ?_
    subst ev
    have b1:H1.blk 1 = some ⟨3,[[.nils,.nils,.nils]]⟩:=(f.old 1 (by simp [Heap.add_next,Heap.empty_next]) id).trans rfl
    have e1:H1.floor = 0:=f.floor
    have n1:2 ≤ H1.next:=f.next
    have ll:∀ l,loc a = some l ∨ loc b = some l ∨ loc c = some l → 2 ≤ l:=l
    (repeat' (first | (simp only [wp,extractV,w0,reduceIte,Nat.reduceAdd,Nat.reduceLT,Nat.reduceLeDiff,Nat.reduceEqDiff,b1,e1,tupV,glob_at hG.arg]) | (with_reducible ((first | apply xC | apply xG | apply xQ) <;> intro hb <;> try simp only [hb]))))
    have s3:∀ {u:V} {sz:Nat} {rows:List (List V)},Own H1 u sz rows → (∀ l,loc u = some l → 2 ≤ l) → Own (H1.set 1 ⟨3,[[a,b,c]]⟩) u sz rows:=fun o hl =>
     o.frame (Frame.set _ 1 (p:=fun k => k = 1) rfl) fun l h e => by have:=hl l h; omega
    obtain ⟨g,g1,g2⟩:=OwnTab.hand2 (H:=H) (e:=.nili) ⟨s3 o.p fun l h => ll l (.inl h),s3 o.q fun l h => ll l (.inr (.inl h)),s3 o.s fun l h => ll l (.inr (.inr h)),o.pq,o.ps,o.qs⟩ rfl hH
    refine ⟨g,g1,g2.mono fun v H2 ⟨u,e,q⟩ => .inl ⟨hok,⟨_,hp',of_decide_eq_true hb⟩,u,e,q⟩⟩
   ·(repeat' (first | (simp only [wp,extractV,w0,reduceIte,Nat.reduceAdd,Nat.reduceLT,Nat.reduceLeDiff,Nat.reduceEqDiff,buildV,fill,apartV,tupV,glob_at hG.arg]) | (with_reducible ((first | apply xC | apply xG | apply xQ) <;> intro hb <;> try simp only [hb]))))
    refine bad_hand (.inr (.inr ⟨hok,fun ⟨q,hq,hm⟩ => ?_,rfl,rfl⟩))
    rw [hp'] at hq
    cases hq
    exact of_decide_eq_false hb hm
  ·have hno:¬ inOk t p ss:=fun ⟨q,hq,_⟩ => hp (at?_lt hq)
   by_cases hneg:p < 0
   ·have e0:decide (p < 0) = true:=by simpa using hneg
    simp only [ferry_ready_in]
    (repeat' (first | (simp only [wp,extractV,w0,reduceIte,Nat.reduceAdd,Nat.reduceLT,Nat.reduceLeDiff,Nat.reduceEqDiff,ready_good_spec hG _ h,decide_eq_true hok,h.p.len,List.length_map,e0,buildV,fill,apartV,tupV,glob_at hG.arg]) | (with_reducible ((first | apply xC | apply xG | apply xQ) <;> intro hb <;> try simp only [hb]))))
    exact bad_hand (.inr (.inr ⟨hok,hno,rfl,rfl⟩))
   ·have e0:decide (p < 0) = false:=by simpa using hneg
    have e1:decide ((t.ps.length:Int) ≤ p) = true:=by simp; omega
    simp only [ferry_ready_in]
    (repeat' (first | (simp only [wp,extractV,w0,reduceIte,Nat.reduceAdd,Nat.reduceLT,Nat.reduceLeDiff,Nat.reduceEqDiff,ready_good_spec hG _ h,decide_eq_true hok,h.p.len,List.length_map,e0,e1,buildV,fill,apartV,tupV,glob_at hG.arg]) | (with_reducible ((first | apply xC | apply xG | apply xQ) <;> intro hb <;> try simp only [hb]))))
    exact bad_hand (.inr (.inr ⟨hok,hno,rfl,rfl⟩))
 ·simp only [ferry_ready_in]
  (repeat' (first | (simp only [wp,extractV,w0,reduceIte,Nat.reduceAdd,Nat.reduceLT,Nat.reduceLeDiff,Nat.reduceEqDiff,ready_good_spec hG _ h,decide_eq_false hok,glob_at hG.state,buildV,fill,apartV,tupV]) | (with_reducible ((first | apply xC | apply xG | apply xQ) <;> intro hb <;> try simp only [hb]))))
  exact bad_hand (.inr (.inl ⟨hok,rfl,rfl⟩))
theorem leave1_spec (n:Nat) (a p:Int):callV (cfg G) (sem (cfg G) (n + 1)) 196 [.int .i64 a,.iptr [.int .i64 p] 0] = M.ret (.bool (decide (a = p))):=by
 refine callV_pure0 rfl rfl rfl ?_
 rw [ferry_ready_Table_leave_1_eq]
 simp only [ferry_ready_Table_leave_1]
 (repeat' (first | (simp only [wp,extractV,w0,reduceIte,Nat.reduceAdd,Nat.reduceLT,Nat.reduceLeDiff,Nat.reduceEqDiff]) | (with_reducible ((first | apply xC | apply xG | apply xQ) <;> intro hb <;> try simp only [hb]))))
 all_goals ((try simp only [decide_eq_true_eq,decide_eq_false_iff_not,beq_iff_eq,beq_eq_false_iff_ne,ne_eq,bne_iff_ne,nbeq_e,Bool.true_eq_false,Bool.false_eq_true,iff_false,iff_true,Bool.not_eq_true',Bool.not_eq_false'] at *); refine boolI ?_; (try simp only [decide_eq_true_eq,decide_eq_false_iff_not,beq_iff_eq,beq_eq_false_iff_ne,ne_eq,bne_iff_ne,nbeq_e,Bool.true_eq_false,Bool.false_eq_true,iff_false,iff_true,Bool.not_eq_true',Bool.not_eq_false',true_iff,false_iff]); (try unfold right); (try omega))
def Asks (G:GV) (n:Nat) (F:V) (c:Nat) (cb:Blk) {α:Type} (arg:α → V) (f:α → Bool):Prop :=
 ∀ (H:Heap) (a:α) (Q:V → Heap → Prop),H.blk c = some cb → (Run (callFn (cfg G) (sem (cfg G) n) F [arg a]) H Q ↔ Q (.bool (f a)) H)
theorem leave_asks (n c:Nat) (p:Int):Asks G (n + 1) (.fn 196 [.ptr c 0 0]) c ⟨1,[[.int .i64 p]]⟩ (fun a => V.int .i64 a) (fun a => decide (a = p)):=by
 intro H a Q hc
 show Run (callV (cfg G) (sem (cfg G) (n + 1)) 196 ([.int .i64 a] ++ [.ptr c 0 0])) H Q ↔ _
 exact Run.callRef (bs:=[.int .i64 a,.iptr [.int .i64 p] 0]) rfl (by simp [thawV,thaw,hc,V.flat]) rfl (leave1_spec n a p) rfl
def idxF {α:Type} (f:α → Bool):List α → Nat → Int
 | [],_ => -1
 | a :: l,k => if f a then (k:Int) else idxF f l (k + 1)
theorem idxF_cases {α : Type} (f : α → Bool) : ∀ (l : List α) (k : Nat), (idxF f l k = -1 ∧ ∀ a ∈ l, f a = false) ∨ ∃ i, ∃ h : i < l.length, idxF f l k = ((k + i : Nat) : Int) ∧ f l[i] = true ∧ ∀ a ∈ l.take i, f a = false
  | [],k => .inl ⟨rfl,by simp⟩
  | a :: l, k => by
    cases ha:f a with
    | true => exact .inr ⟨0,by simp,by simp [idxF,ha],by simpa using ha,by simp⟩
    | false =>
      have e:idxF f (a :: l) k = idxF f l (k + 1):=by simp [idxF,ha]
      rcases idxF_cases f l (k + 1) with ⟨h1,h2⟩ | ⟨i,h,h1,h2,h3⟩
      · exact .inl ⟨e.trans h1,by simpa [ha] using h2⟩
      · refine .inr ⟨i + 1,by simpa using h,?_,by simpa using h2,by simpa [ha] using h3⟩
        rw [e,h1]
        congr 1
        omega
theorem Run.clear {sz:Nat} {zero:List V} {l s n c:Nat} {ex:Bool} {H:Heap} {b:Blk} {Q:V → Heap → Prop} (hz:sz = sz) (hf:H.floor ≤ l) (hb:H.blk l = some b) (hn:s + n ≤ b.rows.length)
  (q:Q (.tuple []) (H.set l ⟨b.sz,b.rows.take s ++ List.replicate n zero ++ b.rows.drop (s + n)⟩)):Run (clearV sz zero (.ref l sz s n c ex)) H Q :=
 Run.of (by simp only [clearV,hf,and_self,if_true,hb,Option.bind_some,hn]) q
theorem indexF_int (n:Nat) {F:V} {c:Nat} {cb:Blk} {f:Int → Bool} (hF:Asks G n F c cb (fun a => V.int .i64 a) f) {x:V} {l:List Int} {H:Heap} (hx:Own H x 1 (l.map intRow)) (hc:H.blk c = some cb) (hl:l.length ≤ big) {Q:V → Heap → Prop} (q:Q (.int .i64 (idxF f l 0)) H) :
  Run (callV (cfg G) (sem (cfg G) (n + 1)) 228 [x,F]) H Q:=by
 rw [callV_inl rfl,slices_IndexFunc_int_int_eq]
 simp only [slices_IndexFunc_int_int]
 (repeat' (first | (simp only [wp,extractV,w0,reduceIte,Nat.reduceAdd,Nat.reduceLT,Nat.reduceLeDiff,Nat.reduceEqDiff,hx.len,List.length_map]) | (with_reducible ((first | apply xC | apply xG | apply xQ) <;> intro hb <;> try simp only [hb]))))
 refine Run.loop (N:=l.length) (fun i s H' => s = [.int .i64 0,.int .i64 (i:Nat)] ∧ H' = H ∧ idxF f l 0 = idxF f (l.drop i) i) ⟨rfl,rfl,rfl⟩ ?_
 rintro i s H hi ⟨rfl,rfl,hd⟩
 by_cases hlt:i < l.length
 ·obtain ⟨k,b,hk,h2,h3,h4,h5⟩:=hx.idx (k:=.i64) (i:=i) (by simpa using hlt)
  simp only [List.getElem_map] at h4
  rw [List.drop_eq_getElem_cons hlt,idxF] at hd
  simp only [slices_IndexFunc_int_int_l1]
  (repeat' (first | (simp only [wp,extractV,w0,reduceIte,Nat.reduceAdd,Nat.reduceLT,Nat.reduceLeDiff,Nat.reduceEqDiff,ltT hlt,h2,h3,h4,addN hlt hl,ir_at]) | (with_reducible ((first | apply xC | apply xG | apply xQ) <;> intro hb <;> try simp only [hb]))))
  refine (hF _ _ _ hc).2 ?_
  (repeat' (first | (simp only [wp,extractV,w0,reduceIte,Nat.reduceAdd,Nat.reduceLT,Nat.reduceLeDiff,Nat.reduceEqDiff]) | (with_reducible ((first | apply xC | apply xG | apply xQ) <;> intro hb <;> try simp only [hb]))))
  ·rw [hd,if_pos hb] at q
   exact q
  ·rw [if_neg (by rw [hb]; exact Bool.false_ne_true)] at hd
   exact ⟨hlt,hd⟩
 ·simp only [slices_IndexFunc_int_int_l1]
  (repeat' (first | (simp only [wp,extractV,w0,reduceIte,Nat.reduceAdd,Nat.reduceLT,Nat.reduceLeDiff,Nat.reduceEqDiff,ltF hlt]) | (with_reducible ((first | apply xC | apply xG | apply xQ) <;> intro hb <;> try simp only [hb]))))
  rw [List.drop_of_length_le (by omega)] at hd
  rw [hd] at q
  exact q
theorem deleteF_int (n : Nat) {F : V} {c : Nat} {cb : Blk} {f : Int → Bool} (hF : ∀ m, Asks G (n + m) F c cb (fun a => V.int .i64 a) f) {x : V} {l : List Int} {H : Heap} (hx : Own H x 1 (l.map intRow)) (hc : H.blk c = some cb) (hcx : loc x ≠ some c) (hcl : c < H.next) (hl : l.length < big) :
    Run (callV (cfg G) (sem (cfg G) (n + 2)) 195 [x,F]) H fun y H' => Own H' y 1 ((l.filter fun a => !f a).map intRow) ∧ Frame H H' (fun k => loc x = some k) ∧ ∀ k,loc y = some k → loc x = some k:=by
  rw [callV_inl rfl,slices_DeleteFunc_int_int_eq]
  simp only [slices_DeleteFunc_int_int]
  (repeat' (first | (simp only [wp,extractV,w0,reduceIte,Nat.reduceAdd,Nat.reduceLT,Nat.reduceLeDiff,Nat.reduceEqDiff]) | (with_reducible ((first | apply xC | apply xG | apply xQ) <;> intro hb <;> try simp only [hb]))))
  refine indexF_int n (hF 0) hx hc (Nat.le_of_lt hl) ?_
  rcases idxF_cases f l 0 with ⟨e,hn⟩ | ⟨i0,hi0,e,hfi,hn⟩
  · rw [e]
    (repeat' (first | (simp only [wp,extractV,w0,reduceIte,Nat.reduceAdd,Nat.reduceLT,Nat.reduceLeDiff,Nat.reduceEqDiff,beq_self_eq_true]) | (with_reducible ((first | apply xC | apply xG | apply xQ) <;> intro hb <;> try simp only [hb]))))
    rw [List.filter_eq_self.2 fun a ha => by simp [hn a ha]]
    exact ⟨hx,Frame.refl _ _,fun _ h => h⟩
  · rw [e, Nat.zero_add]
    have hne : (((i0 : Nat) : Int) == -1) = false := by
      rw [beq_eq_false_iff_ne]; omega
    rcases hx with ⟨_,hnil⟩ | ⟨lx,nx,cx,ex,b,rfl,hb,hfl,hlx,hnc,hcb,hrows⟩
    · rw [List.map_eq_nil_iff] at hnil; subst hnil; simp at hi0
    · have hnx : nx = l.length := by
        have:=congrArg List.length hrows
        rw [List.length_take,List.length_map] at this
        omega
      subst hnx
      have hclx:c ≠ lx:=fun e => hcx (by rw [e]; rfl)
      (repeat' (first | (simp only [wp,extractV,w0,reduceIte,Nat.reduceAdd,Nat.reduceLT,Nat.reduceLeDiff,Nat.reduceEqDiff,hne,addN hi0 (Nat.le_of_lt hl)]) | (with_reducible ((first | apply xC | apply xG | apply xQ) <;> intro hb <;> try simp only [hb]))))
      refine Run.loop (N := l.length - (i0 + 1)) (fun r s H' => ∃ j i : Nat, j = i0 + 1 + r ∧ j ≤ l.length ∧ i = ((l.take j).filter fun a => !f a).length ∧ i < j ∧ s = [.int .i64 i, .int .i64 j] ∧ Frame H H' (fun k => k = lx) ∧
        ∃ R,H'.blk lx = some ⟨b.sz,R⟩ ∧ R.length = b.rows.length ∧ R.take i = ((l.take j).filter fun a => !f a).map intRow ∧ (∀ k a,j ≤ k → l[k]? = some a → R[k]? = some (intRow a)) ∧ ∀ k,k < l.length → ∃ r,R[k]? = some r ∧ r.length = 1) ?_ ?_
      · have hft : (l.take (i0 + 1)).filter (fun a => !f a) = l.take i0 := by
          rw [take_snoc hi0,List.filter_append,List.filter_eq_self.2 fun a ha => by simp [hn a ha],List.filter_cons_of_neg (by simp [hfi]),List.filter_nil,List.append_nil]
        have hget : ∀ k a, l[k]? = some a → b.rows[k]? = some (intRow a) := fun k a ha => by
          have hk:=(List.getElem?_eq_some_iff.1 ha).1
          rw [← List.getElem?_take_of_lt hk,hrows,List.getElem?_map,ha]; rfl
        refine ⟨i0 + 1,i0,rfl,by omega,by rw [hft,List.length_take]; omega,by omega,rfl,Frame.refl _ _,b.rows,hb,rfl,?_,fun k a _ ha => hget k a ha,fun k hk => ⟨_,hget k _ (List.getElem?_eq_getElem hk),rfl⟩⟩
        rw [hft,List.map_take,← hrows,List.take_take,Nat.min_eq_left (by omega)]
      · rintro r s H' hr ⟨j, i, rfl, hjl, hi, hij, rfl, fr, R, hR, hRl, hRt, hRk, hRr⟩
        have hfl':H'.floor ≤ lx:=by rw [fr.floor]; exact hfl
        have hlx':lx < H'.next:=Nat.lt_of_lt_of_le hlx fr.next
        have hc':H'.blk c = some cb:=(fr.old c hcl fun e => hclx e).trans hc
        have hcl':c < H'.next:=Nat.lt_of_lt_of_le hcl fr.next
        have hlen:lenV (.ref lx 1 0 l.length cx ex) = some (.int .i64 (l.length:Int)):=rfl
        by_cases hlt:i0 + 1 + r < l.length
        · have h2 : idxV 1 (.ref lx 1 0 l.length cx ex) (.int .i64 ((i0 + 1 + r : Nat) : Int)) = some (.ptr lx (i0 + 1 + r) 0) := by simp [idxV]; omega
          have h3:idxV 1 (.ref lx 1 0 l.length cx ex) (.int .i64 ((i:Nat):Int)) = some (.ptr lx i 0):=by simp [idxV]; omega
          have h4:=hRk _ _ (Nat.le_refl _) (List.getElem?_eq_getElem hlt)
          obtain ⟨ri,h5,h6⟩:=hRr i (by omega)
          have hd:ri.drop 1 = []:=List.drop_of_length_le (by omega)
          have hle6:1 ≤ ri.length:=by omega
          have n1:¬ lx = H'.next:=by omega
          have n2:¬ c = H'.next:=by omega
          have n3:¬ H'.next = lx:=by omega
          have n4:H'.floor ≤ H'.next:=by omega
          have hfs : (l.take (i0 + 1 + r + 1)).filter (fun a => !f a) = (l.take (i0 + 1 + r)).filter (fun a => !f a) ++ if f l[i0 + 1 + r] then [] else [l[i0 + 1 + r]] := by
            rw [take_snoc hlt,List.filter_append]
            cases hfe:f l[i0 + 1 + r] <;> simp [hfe]
          simp only [slices_DeleteFunc_int_int_l1,slices_DeleteFunc_int_int_j1]
          (repeat' (first | (simp only [wp,extractV,w0,reduceIte,Nat.reduceAdd,Nat.reduceLT,Nat.reduceLeDiff,Nat.reduceEqDiff,hlen,ltT hlt,h2,h3,h4,h5,hR,ir_at,n1,n2,n3,n4]) | (with_reducible ((first | apply xC | apply xG | apply xQ) <;> intro hb <;> try simp only [hb]))))
          refine (hF 1 _ _ _ (by exact hc')).2 ?_
          (repeat' (first | (simp only [wp,extractV,w0,reduceIte,Nat.reduceAdd,Nat.reduceLT,Nat.reduceLeDiff,Nat.reduceEqDiff,hlen,ltT hlt,h2,h3,h4,h5,hR,ir_at,n1,n2,n3,n4,hfl',hle6,hd,addN hlt (Nat.le_of_lt hl),addN (show i < l.length by omega) (Nat.le_of_lt hl)]) | (with_reducible ((first | apply xC | apply xG | apply xQ) <;> intro hb <;> try simp only [hb]))))
          · rw [if_pos hb] at hfs
            rw [List.append_nil] at hfs
            refine ⟨by omega,_,_,by omega,by omega,by rw [hfs]; exact hi,by omega,rfl,fr,R,rfl,hRl,by rw [hfs]; exact hRt,fun k a hk ha => hRk k a (by omega) ha,hRr⟩
          · rw [if_neg (by rw [hb]; exact Bool.false_ne_true)] at hfs
            have hlen':((l.take (i0 + 1 + r + 1)).filter fun a => !f a).length = i + 1:=by rw [hfs,List.length_append,← hi]; rfl
            refine ⟨by omega,_,_,by omega,by omega,hlen'.symm,by omega,rfl,fr.trans (Frame.set _ _ (p:=fun k => k = lx) rfl) (fun _ _ h => h) (fun _ _ h => h),R.set i (intRow l[i0 + 1 + r]),by simp [Heap.set_blk,intRow],by rw [List.length_set]; exact hRl,?_,fun k a hk ha => ?_,fun k hk => ?_⟩
            · have hi':i < (R.set i (intRow l[i0 + 1 + r])).length:=by rw [List.length_set,hRl]; omega
              rw [take_snoc hi',hfs,List.map_append,List.getElem_set_self]
              congr 1
              rw [← hRt]
              exact List.take_set_of_le (Nat.le_refl _)
            · rw [List.getElem?_set_ne (by omega)]
              exact hRk k a (by omega) ha
            · by_cases e : i = k
              · subst e
                exact ⟨_,List.getElem?_set_self (by rw [hRl]; omega),rfl⟩
              · rw [List.getElem?_set_ne e]
                exact hRr k hk
        · have hje : i0 + 1 + r = l.length := by omega
          have hs1 : slV 1 (.ref lx 1 0 l.length cx ex) (some (.int .i64 ((i : Nat) : Int))) none none = some (.ref lx 1 i (l.length - i) (cx - i) ex) := by
            simp [slV,optNat,natOf]; omega
          have hs2 : slV 1 (.ref lx 1 0 l.length cx ex) none (some (.int .i64 ((i : Nat) : Int))) none = some (.ref lx 1 0 i cx ex) := by
            simp [slV,optNat,natOf]; omega
          simp only [slices_DeleteFunc_int_int_l1]
          (repeat' (first | (simp only [wp,extractV,w0,reduceIte,Nat.reduceAdd,Nat.reduceLT,Nat.reduceLeDiff,Nat.reduceEqDiff,hlen,ltF hlt,hs1]) | (with_reducible ((first | apply xC | apply xG | apply xQ) <;> intro hb <;> try simp only [hb]))))
          refine Run.clear rfl hfl' hR (by rw [hRl]; omega) ?_
          (repeat' (first | (simp only [wp,extractV,w0,reduceIte,Nat.reduceAdd,Nat.reduceLT,Nat.reduceLeDiff,Nat.reduceEqDiff,hs2]) | (with_reducible ((first | apply xC | apply xG | apply xQ) <;> intro hb <;> try simp only [hb]))))
          rw [List.take_of_length_le (show l.length ≤ i0 + 1 + r by omega)] at hRt
          refine ⟨.inr ⟨lx,i,cx,ex,_,rfl,by rw [Heap.set_blk,if_pos rfl],hfl',hlx',by omega,?_,?_⟩,(fr.mono (fun _ _ e => by rw [e]; rfl)).trans (Frame.set _ _ (p:=fun k => k = lx) rfl) (fun _ _ h => h) (fun _ _ e => by rw [e]; rfl),fun _ h => h⟩
          · simp only [List.length_append,List.length_take,List.length_replicate,List.length_drop]
            omega
          · rw [List.append_assoc,List.take_append_of_le_length (by rw [List.length_take,hRl]; omega),List.take_take,Nat.min_self]
            exact hRt
end Go.Fv.Tr
