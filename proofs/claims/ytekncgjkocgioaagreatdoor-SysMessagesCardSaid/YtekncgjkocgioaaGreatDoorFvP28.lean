/-
  plan.Check: is the plan in form? By an AI agent; no person has read it.
-/
import Derived.Test.YtekncgjkocgioaaGreatDoorFvP27
set_option linter.unusedVariables false
set_option linter.unusedSimpArgs false
set_option linter.unusedSectionVars false
/-! plan.Check: is the plan in form? -/
namespace Go.Fv.Tr
open Go Go.Fv Go.Fv.Pl Go.Proofs
variable {G:GV}
namespace Sy
variable {l m:List V} {s:St} {p:Pn} {x y z a b c d e f g h:V} {pr:List (List V)}
theorem thaw_if {ok:Prop} {e:V} (h:ErrIf ok e) (H:Heap):thawV true H e = some e:=by
 rcases h with ⟨_,rfl⟩ | ⟨_,⟨_,rfl⟩ | ⟨_,_,rfl⟩⟩ <;> exact thawV_closedT rfl _
theorem PnS.row (hp:PnS l p a b c d):l.length = 7:=by rw [hp.eq]; rfl
set_option maxRecDepth 20000 in
theorem planCheck_spec (hA:BErrs G) (n:Nat) (hp:PnS l p a b c d):∃ e,callV (cfg G) (sem (cfg G) (n + 6)) 103 [.agg l] = M.ret e ∧ ErrIf (PnOk p) e:=by
 refine callV_pureE rfl (by simp [hp.closedV]) ?_
 obtain ⟨e1,h1,E1⟩:=checkPages_spec hA (n + 3) hp
 have h2:=checkProcs_spec hA (n + 3) hp
 have h3:=checkRest_spec hA n hp
 obtain ⟨rfl,-⟩:=hp
 rw [ferry_plan_Check_eq]
 simp only [ferry_plan_Check]
 by_cases h5:p.id < 0
 ·(repeat' (first | (simp only [wp,extractV,w0,reduceIte,Nat.reduceAdd,Nat.reduceLT,Nat.reduceLeDiff,Nat.reduceEqDiff,decide_eq_true h5,glob_b hA,bs_ok]) | (with_reducible ((first | apply xC | apply xG | apply xQ) <;> intro hb <;> try simp only [hb]))))
  exact ⟨_,thawV_closedT rfl _,.err _ fun g => by have:=g.id.1; omega⟩
 by_cases h6:2147483647 < p.id
 ·(repeat' (first | (simp only [wp,extractV,w0,reduceIte,Nat.reduceAdd,Nat.reduceLT,Nat.reduceLeDiff,Nat.reduceEqDiff,decide_eq_false h5,decide_eq_true h6,glob_b hA,bs_ok]) | (with_reducible ((first | apply xC | apply xG | apply xQ) <;> intro hb <;> try simp only [hb]))))
  exact ⟨_,thawV_closedT rfl _,.err _ fun g => by have:=g.id.2; omega⟩
 (repeat' (first | (simp only [wp,extractV,w0,reduceIte,Nat.reduceAdd,Nat.reduceLT,Nat.reduceLeDiff,Nat.reduceEqDiff,decide_eq_false h5,decide_eq_false h6,Run.slice,fillRows,List.replicate_succ,List.replicate_zero,List.set_cons_succ,List.set_cons_zero,cells_fn]) | (with_reducible ((first | apply xC | apply xG | apply xQ) <;> intro hb <;> try simp only [hb]))))
 have hl:lenV (.ref 1 1 0 3 3 true) = some (i64 ((3:Nat):Int)):=rfl
 have f1:∀ (cl:FuncId → List V → M V) (us:List V),callFn (cfg G) cl (.fn 155 []) us = callV (cfg G) cl 155 us:=fun _ us => by simp [callFn]
 have f2:∀ (cl:FuncId → List V → M V) (us:List V),callFn (cfg G) cl (.fn 156 []) us = callV (cfg G) cl 156 us:=fun _ us => by simp [callFn]
 have f3:∀ (cl:FuncId → List V → M V) (us:List V),callFn (cfg G) cl (.fn 157 []) us = callV (cfg G) cl 157 us:=fun _ us => by simp [callFn]
 (repeat' (first | (simp only [wp,extractV,w0,reduceIte,Nat.reduceAdd,Nat.reduceLT,Nat.reduceLeDiff,Nat.reduceEqDiff,hl]) | (with_reducible ((first | apply xC | apply xG | apply xQ) <;> intro hb <;> try simp only [hb]))))
 generalize hK:((Heap.empty.add ⟨7,[[i64 p.id,.bool p.mob,a,b,c,i64 p.ev,d]]⟩).add ⟨1,[[V.fn 155 []],[V.fn 156 []],[V.fn 157 []]]⟩) = K
 have k0:K.blk 0 = some ⟨7,[[i64 p.id,.bool p.mob,a,b,c,i64 p.ev,d]]⟩:=by rw [← hK]; rfl
 have k1:K.blk 1 = some ⟨1,[[V.fn 155 []],[V.fn 156 []],[V.fn 157 []]]⟩:=by rw [← hK]; rfl
 clear hK
 refine Run.loop (N:=3) (fun i s H => s = [.nili,.int .i64 (i:Nat)] ∧ H = K ∧ (1 ≤ i → PagesOk p) ∧ (2 ≤ i → ProcsOk p) ∧ (3 ≤ i → RestOk p)) ⟨rfl,rfl,by omega,by omega,by omega⟩ ?_
 rintro i s H hi ⟨rfl,rfl,g1,g2,g3⟩
 have hc:i = 0 ∨ i = 1 ∨ i = 2 ∨ i = 3:=by omega
 simp only [ferry_plan_Check_l1]
 rcases hc with rfl | rfl | rfl | rfl
 ·have hi:idxV 1 (.ref 1 1 0 3 3 true) (.int .i64 ((0:Nat):Int)) = some (.ptr 1 0 0):=rfl
  by_cases q:PagesOk p
  ·have z:=E1.nilQ; rw [decide_eq_true q] at z
   (repeat' (first | (simp only [wp,extractV,w0,reduceIte,Nat.reduceAdd,Nat.reduceLT,Nat.reduceLeDiff,Nat.reduceEqDiff,ltT (show 0 < 3 by omega),addN (show 0 < 3 by omega) (show 3 ≤ big by decide),hi,k1,k0,f1,h1,z]) | (with_reducible ((first | apply xC | apply xG | apply xQ) <;> intro hb <;> try simp only [hb]))))
   exact ⟨fun _ => q,fun h => absurd h (by decide),fun h => absurd h (by decide)⟩
  ·have z:=E1.nilQ; rw [decide_eq_false q] at z
   (repeat' (first | (simp only [wp,extractV,w0,reduceIte,Nat.reduceAdd,Nat.reduceLT,Nat.reduceLeDiff,Nat.reduceEqDiff,ltT (show 0 < 3 by omega),hi,k1,k0,f1,h1,z]) | (with_reducible ((first | apply xC | apply xG | apply xQ) <;> intro hb <;> try simp only [hb]))))
   exact ⟨e1,thaw_if E1 _,E1.imp ⟨fun g => absurd g q,fun g => g.pages⟩⟩
 ·have hi:idxV 1 (.ref 1 1 0 3 3 true) (.int .i64 ((1:Nat):Int)) = some (.ptr 1 1 0):=rfl
  obtain ⟨e2,h2,E2⟩:=h2 (g1 (Nat.le_refl _)).1.2
  by_cases q:ProcsOk p
  ·have z:=E2.nilQ; rw [decide_eq_true q] at z
   (repeat' (first | (simp only [wp,extractV,w0,reduceIte,Nat.reduceAdd,Nat.reduceLT,Nat.reduceLeDiff,Nat.reduceEqDiff,ltT (show 1 < 3 by omega),addN (show 1 < 3 by omega) (show 3 ≤ big by decide),hi,k1,k0,f2,h2,z]) | (with_reducible ((first | apply xC | apply xG | apply xQ) <;> intro hb <;> try simp only [hb]))))
   exact ⟨fun _ => g1 (Nat.le_refl _),fun _ => q,fun h => absurd h (by decide)⟩
  ·have z:=E2.nilQ; rw [decide_eq_false q] at z
   (repeat' (first | (simp only [wp,extractV,w0,reduceIte,Nat.reduceAdd,Nat.reduceLT,Nat.reduceLeDiff,Nat.reduceEqDiff,ltT (show 1 < 3 by omega),hi,k1,k0,f2,h2,z]) | (with_reducible ((first | apply xC | apply xG | apply xQ) <;> intro hb <;> try simp only [hb]))))
   exact ⟨e2,thaw_if E2 _,E2.imp ⟨fun g => absurd g q,fun g => g.procs⟩⟩
 ·have hi:idxV 1 (.ref 1 1 0 3 3 true) (.int .i64 ((2:Nat):Int)) = some (.ptr 1 2 0):=rfl
  have q1:=g1 (by omega)
  have q2:=g2 (Nat.le_refl _)
  obtain ⟨e3,h3,E3⟩:=h3 q1.1.2 q2.1.2
  by_cases q:RestOk p
  ·have z:=E3.nilQ; rw [decide_eq_true q] at z
   (repeat' (first | (simp only [wp,extractV,w0,reduceIte,Nat.reduceAdd,Nat.reduceLT,Nat.reduceLeDiff,Nat.reduceEqDiff,ltT (show 2 < 3 by omega),addN (show 2 < 3 by omega) (show 3 ≤ big by decide),hi,k1,k0,f3,h3,z]) | (with_reducible ((first | apply xC | apply xG | apply xQ) <;> intro hb <;> try simp only [hb]))))
   exact ⟨fun _ => q1,fun _ => q2,fun _ => q⟩
  ·have z:=E3.nilQ; rw [decide_eq_false q] at z
   (repeat' (first | (simp only [wp,extractV,w0,reduceIte,Nat.reduceAdd,Nat.reduceLT,Nat.reduceLeDiff,Nat.reduceEqDiff,ltT (show 2 < 3 by omega),hi,k1,k0,f3,h3,z]) | (with_reducible ((first | apply xC | apply xG | apply xQ) <;> intro hb <;> try simp only [hb]))))
   exact ⟨e3,thaw_if E3 _,E3.imp ⟨fun g => absurd g q,fun g => ⟨g.ports,g.ev,g.sems,g.bound⟩⟩⟩
 ·(repeat' (first | (simp only [wp,extractV,w0,reduceIte,Nat.reduceAdd,Nat.reduceLT,Nat.reduceLeDiff,Nat.reduceEqDiff,ltF (show ¬ 3 < 3 by omega)]) | (with_reducible ((first | apply xC | apply xG | apply xQ) <;> intro hb <;> try simp only [hb]))))
  have q1:=g1 (by omega)
  have q2:=g2 (by omega)
  have q3:=g3 (by omega)
  exact ⟨_,thawV_closedT rfl _,.nil ⟨⟨by omega,by omega⟩,q1,q2,q3.1,q3.2.1,q3.2.2.1,q3.2.2.2⟩⟩
end Sy
end Go.Fv.Tr
namespace Go.Fv
open Go
def mrows (ks:List Int):List (List V):=ks.map fun k => [V.int .i64 k,.bool true]
theorem find_in {k : Int} : ∀ {ks : List Int} (i : Nat), k ∈ ks → ∃ j, findM .i64 k (mrows ks) i = some (some (i + j, .bool true)) ∧ j < ks.length ∧ (mrows ks)[j]? = some [.int .i64 k, .bool true]
  | [],i,h => by cases h
  | a :: ks, i, h => by
    by_cases e:k = a
    · subst e
      exact ⟨0,by simp [mrows,findM],by simp,by simp [mrows]⟩
    · obtain ⟨j,h1,h2,h3⟩:=find_in (ks:=ks) (i + 1) ((List.mem_cons.1 h).resolve_left e)
      refine ⟨j + 1,?_,by simpa using h2,by simpa [mrows] using h3⟩
      simp only [mrows,List.map_cons,findM,if_true,if_neg e] at h1 ⊢
      rw [h1]
      congr 3
      omega
theorem find_out {k : Int} : ∀ {ks : List Int} (i : Nat), k ∉ ks → findM .i64 k (mrows ks) i = some none
  | [],i,h => rfl
  | a :: ks, i, h => by
    have:=find_out (ks:=ks) (i + 1) fun g => h (List.mem_cons_of_mem _ g)
    have e:k ≠ a:=fun e => h (e ▸ List.mem_cons_self ..)
    simp only [mrows,List.map_cons,findM,if_true,if_neg e] at this ⊢
    exact this
theorem Run.getMr {H : Heap} {l : Nat} {k : Int} {Q : V → Heap → Prop} : Run (getMz (.bool false) false (.mp l) (.int .i64 k)) H Q ↔ ∃ b, H.blk l = some b ∧ ∃ r, findM .i64 k b.rows 0 = some r ∧ Q (match r with | some (_, v) => v | none => .bool false) H := by
  constructor
  · rintro ⟨v, H', e, q⟩
    simp only [getMz] at e
    cases hb:H.blk l with
    | none => rw [hb] at e; cases e
    | some b =>
      simp only [hb,Option.bind_some] at e
      cases hf:findM .i64 k b.rows 0 with
      | none => rw [hf] at e; cases e
      | some r =>
        simp only [hf,Option.bind_some] at e
        refine ⟨b,rfl,r,hf,?_⟩
        cases r with
        | none => simp at e; obtain ⟨rfl,rfl⟩:=e; exact q
        | some r => obtain ⟨j,w⟩:=r; simp at e; obtain ⟨rfl,rfl⟩:=e; exact q
  · rintro ⟨b,hb,r,hf,q⟩
    refine ⟨_,H,?_,q⟩
    simp only [getMz,hb,Option.bind_some,hf]
    cases r with
    | none => rfl
    | some r => rfl
theorem Run.getIn {H:Heap} {l:Nat} {k:Int} {ks:List Int} {Q:V → Heap → Prop} (hb:H.blk l = some ⟨0,mrows ks⟩):Run (getMz (.bool false) false (.mp l) (.int .i64 k)) H Q ↔ Q (.bool (decide (k ∈ ks))) H:=by
 rw [Run.getMr]
 by_cases h:k ∈ ks
 ·obtain ⟨j,h1,_⟩:=find_in 0 h
  constructor
  ·rintro ⟨b,e,r,f,q⟩
   rw [hb] at e; cases e
   rw [h1] at f; cases f
   simpa [h] using q
  ·intro q
   exact ⟨_,hb,_,h1,by simpa [h] using q⟩
 ·have h1:=find_out 0 h
  constructor
  ·rintro ⟨b,e,r,f,q⟩
   rw [hb] at e; cases e
   rw [h1] at f; cases f
   simpa [h] using q
  ·intro q
   exact ⟨_,hb,_,h1,by simpa [h] using q⟩
theorem set_at {α:Type}:∀ {l:List α} {j:Nat} {a:α},l[j]? = some a → l.set j a = l
 | [],j,a,h => by cases h
 | b :: l,0,a,h => by simp at h; simp [h]
 | b :: l,j + 1,a,h => by simp at h; simp [set_at h]
theorem Run.setIn {H:Heap} {l:Nat} {k:Int} {ks:List Int} {Q:V → Heap → Prop} (hb:H.blk l = some ⟨0,mrows ks⟩) (hf:H.floor ≤ l):Run (setMz (.mp l) (.int .i64 k) (.bool true)) H Q ↔ Q .undef (H.set l ⟨0,mrows (if k ∈ ks then ks else ks ++ [k])⟩):=by
 by_cases h:k ∈ ks
 ·obtain ⟨j,h1,h2,h3⟩:=find_in 0 h
  rw [Nat.zero_add] at h1
  refine Run.eq ?_
  simp only [setMz,if_pos hf,hb,Option.bind_some,h1,if_pos h,set_at h3]
 ·have h1:=find_out 0 h
  refine Run.eq ?_
  simp only [setMz,if_pos hf,hb,Option.bind_some,h1,if_neg h]
  simp [mrows]
theorem Run.newM {H:Heap} {Q:V → Heap → Prop}:Run Fv.newM H Q ↔ Q (.mp H.next) (H.add ⟨0,mrows []⟩):=Run.eq rfl
end Go.Fv
namespace Go.Fv.Tr
open Go Go.Fv Go.Fv.Pl Go.Proofs
variable {G:GV}
namespace Sy
variable {l m:List V} {s:St} {p:Pn} {x y z a b c d x' y' z' u v w g:V} {pr:List (List V)}
structure AsS (k:List V) (p:Pn) (s:St) (a b c d x y z u v w g:V) (pr:List (List V)):Prop where
 eq:k = [i64 p.id,.bool p.mob,a,b,c,i64 p.ev,d,i64 s.id,i64 s.fr,i64 s.ep,x,y,z,u,v,w,g]
 p:∃ l,PnS l p a b c d
 s:∃ m,StS m s x y z u v w g pr
variable {k:List V}
theorem AsS.closedV (h:AsS k p s a b c d x y z u v w g pr):(V.agg k).closedV = true:=by
 obtain ⟨rfl,⟨l,hp⟩,m,hs⟩:=h
 show ([i64 p.id,.bool p.mob,a,b,c,i64 p.ev,d,i64 s.id,i64 s.fr,i64 s.ep,x,y,z,u,v,w,g]:List V).all V.closed = true
 simp only [List.all_cons,List.all_nil,hp.pages.closed,hp.procs.closed,hp.ports.closed,hp.sems.closed,hs.t.p.closed,hs.t.q.closed,hs.t.s.closed,hs.up.closed,hs.sems.closed,hs.ports.closed,hs.pages.closed]
 rfl
theorem nodup_snoc {l:List Int} {i:Nat} (h:i < l.length):(l.take (i + 1)).Nodup ↔ (l.take i).Nodup ∧ l[i] ∉ l.take i:=by
 rw [take_snoc h,List.nodup_append]
 simp only [List.nodup_cons,List.not_mem_nil,not_false_eq_true,List.nodup_nil,and_self,true_and,List.mem_singleton]
 constructor
 ·rintro ⟨h1,h2⟩
  exact ⟨h1,fun g => h2 _ g _ rfl rfl⟩
 ·rintro ⟨h1,h2⟩
  exact ⟨h1,fun a ha b hb e => h2 (by rw [← hb,← e]; exact ha)⟩
set_option maxRecDepth 20000 in
theorem queue_spec (n:Nat) (h:AsS k p s a b c d x y z u v w g pr):callV (cfg G) (sem (cfg G) (n + 2)) 163 [.agg k] = M.ret (.bool (decide (QOk s.t.ps s.t.q))):=by
 refine callV_pure0 rfl (by simp [h.closedV]) rfl ?_
 obtain ⟨rfl,⟨_,hp⟩,_,hs⟩:=h
 have ht:=hs.t
 rw [ferry_valid_asked_queue_eq]
 simp only [ferry_valid_asked_queue]
 (repeat' (first | (simp only [wp,extractV,w0,reduceIte,Nat.reduceAdd,Nat.reduceLT,Nat.reduceLeDiff,Nat.reduceEqDiff,Run.newM,ht.q.len,List.length_map]) | (with_reducible ((first | apply xC | apply xG | apply xQ) <;> intro hb <;> try simp only [hb]))))
 refine Run.loop (N:=s.t.q.length) (fun i r H => r = [.bool false,.int .i64 (i:Nat)] ∧ H.floor = 0 ∧ 1 < H.next ∧ (∃ B,H.blk 0 = some B ∧ B.rows = [[i64 p.id,.bool p.mob,a,b,c,i64 p.ev,d,i64 s.id,i64 s.fr,i64 s.ep,x,y,z,u,v,w,g]]) ∧ H.blk 1 = some ⟨0,mrows (s.t.q.take i)⟩ ∧ (∀ n ∈ s.t.q.take i,isReady s.t.ps n) ∧ (s.t.q.take i).Nodup) ⟨rfl,rfl,by simp [Heap.add_next],⟨_,rfl,rfl⟩,rfl,by simp,by simp⟩ ?_
 rintro i r H hi ⟨rfl,hf,hn,⟨B,hb0,hB⟩,hb1,hall,hnd⟩
 by_cases hlt:i < s.t.q.length
 ·have i2:=ht.q.idx (k:=.i64) (i:=i) (by simpa using hlt)
  simp only [List.getElem_map] at i2
  have hy:=all_snoc (P:=fun n => isReady s.t.ps n) hlt
  have hz:=nodup_snoc hlt
  have bad:¬ isReady s.t.ps s.t.q[i] ∨ s.t.q[i] ∈ s.t.q.take i → V.bool false = V.bool (decide (QOk s.t.ps s.t.q)):=fun h => boolF fun g => by
   rcases h with h | h
   ·exact h (g.1 _ (List.getElem_mem hlt))
   ·have:=g.2.1.sublist (List.take_sublist (i + 1) _)
    exact (hz.1 this).2 h
  have ad:=addN hlt ht.big.2.1
  rw [take_snoc hlt] at hy hz
  have hsn:=take_snoc hlt
  generalize hq:s.t.q[i] = q at *
  by_cases hin:0 ≤ q ∧ q < s.t.ps.length
  ·have i3:=ht.p.idxI (k:=.i64) hin.1 (by simpa using hin.2)
   simp only [List.getElem_map] at i3
   have hw:=ht.wp _ (List.getElem_mem (show q.toNat < s.t.ps.length by omega))
   have hr:isReady s.t.ps q ↔ s.t.ps[q.toNat].state = 1:=by
    unfold isReady at?
    rw [if_pos hin.1,List.getElem?_eq_getElem (by omega)]
    simp
   generalize s.t.ps[q.toNat] = P at *
   simp only [ferry_valid_asked_queue_l1]
   (repeat' (first | (simp only [wp,extractV,w0,reduceIte,Nat.reduceAdd,Nat.reduceLT,Nat.reduceLeDiff,Nat.reduceEqDiff,ltT hlt,i2,intRow,hb0,hB,within_spec,decide_eq_true hin,ht.p.len,List.length_map,Run.getIn hb1,Run.setIn hb1 (show H.floor ≤ 1 by omega),i3,pr_state hw,ad]) | (with_reducible ((first | apply xC | apply xG | apply xQ) <;> intro hb <;> try simp only [hb]))))
   all_goals simp only [beq_iff_eq,beq_eq_false_iff_ne,Bool.and_eq_true,Bool.or_eq_true,Bool.not_eq_true',Bool.not_eq_false',decide_eq_true_eq,decide_eq_false_iff_not,Bool.or_eq_false_iff,Bool.and_eq_false_iff,ne_eq] at *
   all_goals first
    | exact bad (.inr (by assumption))
    | exact bad (.inl fun g => absurd (hr.1 g) (by assumption))
    | exact ⟨hlt,hf,hn,by rw [if_neg (by assumption),hsn],hsn ▸ hy.2 ⟨hall,hr.2 (by assumption)⟩,hsn ▸ hz.2 ⟨hnd,by assumption⟩⟩
  ·simp only [ferry_valid_asked_queue_l1]
   (repeat' (first | (simp only [wp,extractV,w0,reduceIte,Nat.reduceAdd,Nat.reduceLT,Nat.reduceLeDiff,Nat.reduceEqDiff,ltT hlt,i2,intRow,hb0,hB,within_spec,decide_eq_false hin,ht.p.len,List.length_map]) | (with_reducible ((first | apply xC | apply xG | apply xQ) <;> intro hb <;> try simp only [hb]))))
   refine bad (.inl fun g => hin ?_)
   obtain ⟨P,h1,h2⟩:=Option.map_eq_some_iff.1 g
   exact at?_lt h1
 simp only [ferry_valid_asked_queue_l1]
 (repeat' (first | (simp only [wp,extractV,w0,reduceIte,Nat.reduceAdd,Nat.reduceLT,Nat.reduceLeDiff,Nat.reduceEqDiff,ltF hlt,hb0,hB,ht.p.len,List.length_map]) | (with_reducible ((first | apply xC | apply xG | apply xQ) <;> intro hb <;> try simp only [hb]))))
 rw [take_all (by omega)] at hall hnd hb1
 refine Run.loop (N:=s.t.ps.length) (fun i r K => r = [.bool false,.int .i64 (i:Nat)] ∧ K.floor = 0 ∧ 1 < K.next ∧ K.blk 1 = some ⟨0,mrows s.t.q⟩ ∧ ∀ j,j < i → isReady s.t.ps (j:Nat) → ((j:Nat):Int) ∈ s.t.q) ⟨rfl,hf,hn,hb1,by simp⟩ ?_
 rintro i r K hi ⟨rfl,hf,hn,hb1,hall2⟩
 by_cases hlt:i < s.t.ps.length
 ·have i2:=ht.p.idx (k:=.i64) (i:=i) (by simpa using hlt)
  simp only [List.getElem_map] at i2
  have hw:=ht.wp _ (List.getElem_mem hlt)
  have hr:isReady s.t.ps (i:Nat) ↔ s.t.ps[i].state = 1:=by
   unfold isReady at?
   rw [if_pos (by omega),Int.toNat_natCast,List.getElem?_eq_getElem hlt]
   simp
  have hnx:(isReady s.t.ps (i:Nat) → ((i:Nat):Int) ∈ s.t.q) → ∀ j,j < i + 1 → isReady s.t.ps (j:Nat) → ((j:Nat):Int) ∈ s.t.q:=fun g j hj hjr => by
   rcases Nat.lt_succ_iff_lt_or_eq.1 hj with h' | rfl
   ·exact hall2 j h' hjr
   ·exact g hjr
  have ad:=addN hlt ht.big.1
  have nk:¬ (1 = K.next):=by omega
  have gi:∀ {b:Blk} {b':Blk} {Q:V → Heap → Prop},Run (getMz (.bool false) false (.mp 1) (.int .i64 ((i:Nat):Int))) ((K.add b).set K.next b') Q ↔ Q (.bool (decide (((i:Nat):Int) ∈ s.t.q))) ((K.add b).set K.next b'):=fun {b b' Q} => Run.getIn (by rw [Heap.set_blk,if_neg nk,Heap.add_blk,if_neg nk]; exact hb1)
  have bad:isReady s.t.ps (i:Nat) → ((i:Nat):Int) ∉ s.t.q → V.bool false = V.bool (decide (QOk s.t.ps s.t.q)):=fun g g' => boolF fun o => g' (o.2.2 i hlt g)
  generalize s.t.ps[i] = P at *
  simp only [ferry_valid_asked_queue_l2]
  (repeat' (first | (simp only [wp,extractV,w0,reduceIte,Nat.reduceAdd,Nat.reduceLT,Nat.reduceLeDiff,Nat.reduceEqDiff,ltT hlt,i2,ad,pr_state hw,pr_len hw,pr_take hw,hf,gi,nk]) | (with_reducible ((first | apply xC | apply xG | apply xQ) <;> intro hb <;> try simp only [hb]))))
  all_goals simp only [beq_iff_eq,beq_eq_false_iff_ne,Bool.and_eq_true,Bool.or_eq_true,Bool.not_eq_true',Bool.not_eq_false',decide_eq_true_eq,decide_eq_false_iff_not,Bool.or_eq_false_iff,Bool.and_eq_false_iff,ne_eq] at *
  all_goals first
   | exact bad (hr.2 (by assumption)) (by assumption)
   | exact ⟨hlt,Nat.lt_succ_of_lt hn,by simp [Heap.q_blk,Heap.q_next,Heap.q_floor,Heap.set_blk,Heap.set_next,Heap.set_floor,Heap.add_blk,Heap.add_next,Heap.add_floor,hn,nk,hb1],hnx fun _ => by assumption⟩
   | exact ⟨hlt,Nat.lt_succ_of_lt hn,by simp [Heap.q_blk,Heap.q_next,Heap.q_floor,Heap.set_blk,Heap.set_next,Heap.set_floor,Heap.add_blk,Heap.add_next,Heap.add_floor,hn,nk,hb1],hnx fun g => absurd (hr.1 g) (by assumption)⟩
 ·simp only [ferry_valid_asked_queue_l2]
  (repeat' (first | (simp only [wp,extractV,w0,reduceIte,Nat.reduceAdd,Nat.reduceLT,Nat.reduceLeDiff,Nat.reduceEqDiff,ltF hlt]) | (with_reducible ((first | apply xC | apply xG | apply xQ) <;> intro hb <;> try simp only [hb]))))
  exact boolT ⟨hall,hnd,fun i hi => hall2 i (by omega)⟩
set_option maxRecDepth 20000 in
theorem rise_spec (n:Nat) (h:AsS k p s a b c d x y z u v w g pr):callV (cfg G) (sem (cfg G) (n + 2)) 164 [.agg k] = M.ret (.bool (decide (TsOk s.t.ps.length s.t.ts))):=by
 refine callV_pure0 rfl (by simp [h.closedV]) rfl ?_
 obtain ⟨rfl,⟨_,hp⟩,_,hs⟩:=h
 have ht:=hs.t
 generalize hts:s.t.ts = ts at *
 have hx:Sls z 2 (ts.map tmRow):=hts ▸ ht.s
 have hl:ts.length ≤ big:=hts ▸ ht.big.2.2
 rw [ferry_valid_asked_rise_eq]
 simp only [ferry_valid_asked_rise]
 (repeat' (first | (simp only [wp,extractV,w0,reduceIte,Nat.reduceAdd,Nat.reduceLT,Nat.reduceLeDiff,Nat.reduceEqDiff,Run.newM,hx.len,List.length_map]) | (with_reducible ((first | apply xC | apply xG | apply xQ) <;> intro hb <;> try simp only [hb]))))
 refine Run.loop (N:=ts.length) (fun i r H => r = [.bool false,.int .i64 (i:Nat)] ∧ H.floor = 0 ∧ 1 < H.next ∧ (∃ B,H.blk 0 = some B ∧ B.rows = [[i64 p.id,.bool p.mob,a,b,c,i64 p.ev,d,i64 s.id,i64 s.fr,i64 s.ep,x,y,z,u,v,w,g]]) ∧ H.blk 1 = some ⟨0,mrows ((ts.take i).map Tm.proc)⟩ ∧ TsOk s.t.ps.length (ts.take i)) ⟨rfl,rfl,by simp [Heap.add_next],⟨_,rfl,rfl⟩,rfl,.nil⟩ ?_
 rintro i r H hi ⟨rfl,hf,hn,⟨B,hb0,hB⟩,hb1,hok⟩
 by_cases hlt:i < ts.length
 ·have h2:=hx.idx (k:=.i64) (i:=i) (by simpa using hlt)
  simp only [List.getElem_map] at h2
  have hno:TsOk s.t.ps.length ts → TsOk s.t.ps.length (ts.take i) ∧ right s.t.ps.length ts[i] ∧ ts[i].proc ∉ (ts.take i).map Tm.proc ∧ ∀ a,(ts.take i).getLast? = some a → before a ts[i]:=fun h => by
   have:=h.take (i + 1)
   rw [take_snoc hlt,TsOk_snoc] at this
   exact this
  have hsn:(ts.take (i + 1)).map Tm.proc = (ts.take i).map Tm.proc ++ [ts[i].proc]:=by rw [take_snoc hlt,List.map_append]; rfl
  have yes:right s.t.ps.length ts[i] → ts[i].proc ∉ (ts.take i).map Tm.proc → (∀ a,(ts.take i).getLast? = some a → before a ts[i]) → TsOk s.t.ps.length (ts.take (i + 1)):=fun g1 g2 g3 => by
   rw [take_snoc hlt,TsOk_snoc]
   exact ⟨hok,g1,g2,g3⟩
  have n0:¬ (0 = H.next):=by omega
  have n1:¬ (1 = H.next):=by omega
  have gi:∀ {k:Int} {b:Blk} {b':Blk} {Q:V → Heap → Prop},Run (getMz (.bool false) false (.mp 1) (.int .i64 k)) ((H.add b).set H.next b') Q ↔ Q (.bool (decide (k ∈ (ts.take i).map Tm.proc))) ((H.add b).set H.next b'):=fun {k b b' Q} => Run.getIn (by rw [Heap.set_blk,if_neg n1,Heap.add_blk,if_neg n1]; exact hb1)
  have si:∀ {k:Int} {b:Blk} {b':Blk} {Q:V → Heap → Prop},Run (setMz (.mp 1) (.int .i64 k) (.bool true)) ((H.add b).set H.next b') Q ↔ Q .undef (((H.add b).set H.next b').set 1 ⟨0,mrows (if k ∈ (ts.take i).map Tm.proc then (ts.take i).map Tm.proc else (ts.take i).map Tm.proc ++ [k])⟩):=fun {k b b' Q} => Run.setIn (by rw [Heap.set_blk,if_neg n1,Heap.add_blk,if_neg n1]; exact hb1) (by show H.floor ≤ 1; omega)
  by_cases hr:(0 ≤ ts[i].proc ∧ ts[i].proc < s.t.ps.length) ∧ (0 ≤ ts[i].due ∧ ts[i].due ≤ 1010000)
  ·have hr':right s.t.ps.length ts[i]:=⟨hr.1.1,hr.1.2,hr.2.1,hr.2.2⟩
   rcases Nat.eq_zero_or_pos i with h0 | h0
   ·have hgt:decide ((0:Int) < (i:Int)) = false:=by simp; omega
    have hlast:∀ a,(ts.take i).getLast? = some a → before a ts[i]:=fun a ha => by subst h0; simp at ha
    generalize ts[i] = T at *
    simp only [ferry_valid_asked_rise_l1]
    (repeat' (first | (simp only [wp,extractV,w0,reduceIte,Nat.reduceAdd,Nat.reduceLT,Nat.reduceLeDiff,Nat.reduceEqDiff,ltT hlt,h2,tmRow,hf,hb0,hB,n0,n1,within_spec,between_spec,decide_eq_true hr.1,decide_eq_true hr.2,ht.p.len,List.length_map,gi,si,addN hlt hl,hgt]) | (with_reducible ((first | apply xC | apply xG | apply xQ) <;> intro hb <;> try simp only [hb]))))
    all_goals simp only [beq_iff_eq,beq_eq_false_iff_ne,Bool.and_eq_true,Bool.or_eq_true,Bool.not_eq_true',Bool.not_eq_false',decide_eq_true_eq,decide_eq_false_iff_not,Bool.or_eq_false_iff,Bool.and_eq_false_iff,ne_eq] at *
    ·exact boolF fun h => (hno h).2.2.1 (by assumption)
    ·exact ⟨hlt,by omega,by rw [if_neg (by assumption),hsn],yes hr' (by assumption) hlast⟩
   ·have hgt:decide ((0:Int) < (i:Int)) = true:=by simpa using h0
    have h3:=hx.idx (k:=.i64) (i:=i - 1) (by simp; omega)
    simp only [List.getElem_map,Int.natCast_sub h0,Int.natCast_one] at h3
    have hlast:(ts.take i).getLast? = some ts[i - 1]:=by
     have:=last_take (l:=ts) (i:=i - 1) (by omega)
     rwa [show i - 1 + 1 = i by omega] at this
    have hsub:arithV .sub (.int .i64 (i:Int)) (.int .i64 1) = some (.int .i64 ((i:Int) - 1)):=arith_sub (by omega) (by unfold big at hl; omega)
    generalize ts[i] = T at *
    generalize ts[i - 1] = L at *
    have n2:¬ (0 = H.next + 1):=by omega
    have n3:¬ (1 = H.next + 1):=by omega
    have n4:¬ (H.next = 1):=by omega
    have n5:¬ (H.next + 1 = 1):=by omega
    have n6:¬ (H.next = H.next + 1):=by omega
    simp only [ferry_valid_asked_rise_l1]
    (repeat' (first | (simp only [wp,extractV,w0,reduceIte,Nat.reduceAdd,Nat.reduceLT,Nat.reduceLeDiff,Nat.reduceEqDiff,ltT hlt,h2,h3,tmRow,hf,hb0,hB,n0,n1,n2,n3,n4,n5,n6,hsub,within_spec,between_spec,decide_eq_true hr.1,decide_eq_true hr.2,ht.p.len,List.length_map,gi,si,addN hlt hl,hgt]) | (with_reducible ((first | apply xC | apply xG | apply xQ) <;> intro hb <;> try simp only [hb]))))
    all_goals simp only [beq_iff_eq,beq_eq_false_iff_ne,Bool.and_eq_true,Bool.or_eq_true,Bool.not_eq_true',Bool.not_eq_false',decide_eq_true_eq,decide_eq_false_iff_not,Bool.or_eq_false_iff,Bool.and_eq_false_iff,ne_eq] at *
    all_goals first
     | exact boolF fun h => (hno h).2.2.1 (by assumption)
     | exact boolF fun h => by have:=(hno h).2.2.2 _ hlast; unfold before at this; omega
     | exact ⟨hlt,by omega,by rw [if_neg (by assumption),hsn],yes hr' (by assumption) fun a ha => by rw [hlast] at ha; cases ha; unfold before; omega⟩
  ·have no:V.bool false = V.bool (decide (TsOk s.t.ps.length ts)):=boolF fun h => hr ⟨⟨(hno h).2.1.1,(hno h).2.1.2.1⟩,(hno h).2.1.2.2⟩
   by_cases h1:0 ≤ ts[i].proc ∧ ts[i].proc < s.t.ps.length
   ·have h3:¬ (0 ≤ ts[i].due ∧ ts[i].due ≤ 1010000):=fun g => hr ⟨h1,g⟩
    generalize ts[i] = T at *
    simp only [ferry_valid_asked_rise_l1]
    (repeat' (first | (simp only [wp,extractV,w0,reduceIte,Nat.reduceAdd,Nat.reduceLT,Nat.reduceLeDiff,Nat.reduceEqDiff,ltT hlt,h2,tmRow,hf,hb0,hB,n0,n1,within_spec,between_spec,decide_eq_true h1,decide_eq_false h3,ht.p.len,List.length_map,gi]) | (with_reducible ((first | apply xC | apply xG | apply xQ) <;> intro hb <;> try simp only [hb]))))
    all_goals exact no
   ·generalize ts[i] = T at *
    simp only [ferry_valid_asked_rise_l1]
    (repeat' (first | (simp only [wp,extractV,w0,reduceIte,Nat.reduceAdd,Nat.reduceLT,Nat.reduceLeDiff,Nat.reduceEqDiff,ltT hlt,h2,tmRow,hf,hb0,hB,n0,n1,within_spec,between_spec,decide_eq_false h1,ht.p.len,List.length_map,gi]) | (with_reducible ((first | apply xC | apply xG | apply xQ) <;> intro hb <;> try simp only [hb]))))
    all_goals exact no
 ·simp only [ferry_valid_asked_rise_l1]
  (repeat' (first | (simp only [wp,extractV,w0,reduceIte,Nat.reduceAdd,Nat.reduceLT,Nat.reduceLeDiff,Nat.reduceEqDiff,ltF hlt]) | (with_reducible ((first | apply xC | apply xG | apply xQ) <;> intro hb <;> try simp only [hb]))))
  rw [take_all (by omega)] at hok
  exact boolT hok
set_option maxRecDepth 20000 in
theorem timed_spec (n:Nat) (h:AsS k p s a b c d x y z u v w g pr):callV (cfg G) (sem (cfg G) (n + 2)) 165 [.agg k] = M.ret (.bool (decide (TimedOk s.t))):=by
 refine callV_pure0 rfl (by simp [h.closedV]) rfl ?_
 obtain ⟨rfl,⟨_,hp⟩,_,hs⟩:=h
 have ht:=hs.t
 rw [ferry_valid_asked_timed_eq]
 simp only [ferry_valid_asked_timed]
 (repeat' (first | (simp only [wp,extractV,w0,reduceIte,Nat.reduceAdd,Nat.reduceLT,Nat.reduceLeDiff,Nat.reduceEqDiff,Run.newM,ht.s.len,List.length_map]) | (with_reducible ((first | apply xC | apply xG | apply xQ) <;> intro hb <;> try simp only [hb]))))
 refine Run.loop (N:=s.t.ts.length) (fun i r H => r = [.bool false,.int .i64 (i:Nat)] ∧ H.floor = 0 ∧ 1 < H.next ∧ (∃ B,H.blk 0 = some B ∧ B.rows = [[i64 p.id,.bool p.mob,a,b,c,i64 p.ev,d,i64 s.id,i64 s.fr,i64 s.ep,x,y,z,u,v,w,g]]) ∧ (∃ ks,H.blk 1 = some ⟨0,mrows ks⟩ ∧ ∀ k,k ∈ ks ↔ k ∈ (s.t.ts.take i).map Tm.proc) ∧ ∀ a ∈ s.t.ts.take i,∀ q,at? s.t.ps a.proc = some q → q.state = 2) ⟨rfl,rfl,by simp [Heap.add_next],⟨_,rfl,rfl⟩,⟨[],rfl,by simp⟩,by simp⟩ ?_
 rintro i r H hi ⟨rfl,hf,hn,⟨B,hb0,hB⟩,⟨ks,hb1,hks⟩,hall⟩
 by_cases hlt:i < s.t.ts.length
 ·have h2:=ht.s.idx (k:=.i64) (i:=i) (by simpa using hlt)
  simp only [List.getElem_map] at h2
  have hy:=all_snoc (P:=fun a:Tm => ∀ q,at? s.t.ps a.proc = some q → q.state = 2) hlt
  have no:(¬ ∀ q,at? s.t.ps s.t.ts[i].proc = some q → q.state = 2) → V.bool false = V.bool (decide (TimedOk s.t)):=fun g => boolF fun h => g (h.1 _ (List.getElem_mem hlt))
  have hsn:(s.t.ts.take (i + 1)).map Tm.proc = (s.t.ts.take i).map Tm.proc ++ [s.t.ts[i].proc]:=by rw [take_snoc hlt,List.map_append]; rfl
  have hk':∀ k,k ∈ (if s.t.ts[i].proc ∈ ks then ks else ks ++ [s.t.ts[i].proc]) ↔ k ∈ (s.t.ts.take (i + 1)).map Tm.proc:=fun k => by
   rw [hsn,List.mem_append,← hks,List.mem_singleton]
   split
   ·rename_i g
    exact ⟨.inl,fun h => h.elim id fun e => e ▸ g⟩
   ·simp
  have n0:¬ (0 = H.next):=by omega
  have n1:¬ (1 = H.next):=by omega
  have n2:¬ (H.next = 1):=by omega
  have ad:=addN hlt ht.big.2.2
  have si:∀ {k:Int} {b:Blk} {b':Blk} {Q:V → Heap → Prop},Run (setMz (.mp 1) (.int .i64 k) (.bool true)) ((H.add b).set H.next b') Q ↔ Q .undef (((H.add b).set H.next b').set 1 ⟨0,mrows (if k ∈ ks then ks else ks ++ [k])⟩):=fun {k b b' Q} => Run.setIn (by rw [Heap.set_blk,if_neg n1,Heap.add_blk,if_neg n1]; exact hb1) (by show H.floor ≤ 1; omega)
  by_cases hin:0 ≤ s.t.ts[i].proc ∧ s.t.ts[i].proc < s.t.ps.length
  ·have i3:=ht.p.idxI (k:=.i64) hin.1 (by simpa using hin.2)
   simp only [List.getElem_map] at i3
   have hw:=ht.wp _ (List.getElem_mem (show s.t.ts[i].proc.toNat < s.t.ps.length by omega))
   have hr:(∀ q,at? s.t.ps s.t.ts[i].proc = some q → q.state = 2) ↔ (s.t.ps[s.t.ts[i].proc.toNat]'(by omega)).state = 2:=by
    unfold at?
    rw [if_pos hin.1,List.getElem?_eq_getElem (by omega)]
    simp
   generalize (s.t.ps[s.t.ts[i].proc.toNat]'(by omega)) = P at *
   generalize s.t.ts[i] = T at *
   simp only [ferry_valid_asked_timed_l1]
   (repeat' (first | (simp only [wp,extractV,w0,reduceIte,Nat.reduceAdd,Nat.reduceLT,Nat.reduceLeDiff,Nat.reduceEqDiff,ltT hlt,h2,tmRow,hf,hb0,hB,n0,n1,n2,within_spec,decide_eq_true hin,ht.p.len,List.length_map,si,ad,i3,pr_state hw]) | (with_reducible ((first | apply xC | apply xG | apply xQ) <;> intro hb <;> try simp only [hb]))))
   all_goals simp only [beq_iff_eq,beq_eq_false_iff_ne,Bool.and_eq_true,Bool.or_eq_true,Bool.not_eq_true',Bool.not_eq_false',decide_eq_true_eq,decide_eq_false_iff_not,Bool.or_eq_false_iff,Bool.and_eq_false_iff,ne_eq] at *
   all_goals first
    | exact no fun g => absurd (hr.1 g) (by assumption)
    | exact ⟨hlt,by omega,⟨_,rfl,hk'⟩,hy.2 ⟨hall,hr.2 (by assumption)⟩⟩
  ·have hr:∀ q,at? s.t.ps s.t.ts[i].proc = some q → q.state = 2:=fun q g => absurd (at?_lt g) hin
   generalize s.t.ts[i] = T at *
   simp only [ferry_valid_asked_timed_l1]
   (repeat' (first | (simp only [wp,extractV,w0,reduceIte,Nat.reduceAdd,Nat.reduceLT,Nat.reduceLeDiff,Nat.reduceEqDiff,ltT hlt,h2,tmRow,hf,hb0,hB,n0,n1,n2,within_spec,decide_eq_false hin,ht.p.len,List.length_map,si,ad]) | (with_reducible ((first | apply xC | apply xG | apply xQ) <;> intro hb <;> try simp only [hb]))))
   exact ⟨hlt,by omega,⟨_,rfl,hk'⟩,hy.2 ⟨hall,hr⟩⟩
 simp only [ferry_valid_asked_timed_l1]
 (repeat' (first | (simp only [wp,extractV,w0,reduceIte,Nat.reduceAdd,Nat.reduceLT,Nat.reduceLeDiff,Nat.reduceEqDiff,ltF hlt,hb0,hB,ht.p.len,List.length_map]) | (with_reducible ((first | apply xC | apply xG | apply xQ) <;> intro hb <;> try simp only [hb]))))
 rw [take_all (by omega)] at hall hks
 refine Run.loop (N:=s.t.ps.length) (fun i r K => r = [.bool false,.int .i64 (i:Nat)] ∧ K.floor = 0 ∧ 1 < K.next ∧ K.blk 1 = some ⟨0,mrows ks⟩ ∧ ∀ j,j < i → ∀ q,s.t.ps[j]? = some q → q.wait = 1 → timed s.t.ts (j:Nat)) ⟨rfl,hf,hn,hb1,by simp⟩ ?_
 rintro i r K hi ⟨rfl,hf,hn,hb1,hall2⟩
 by_cases hlt:i < s.t.ps.length
 ·have i2:=ht.p.idx (k:=.i64) (i:=i) (by simpa using hlt)
  simp only [List.getElem_map] at i2
  have hw:=ht.wp _ (List.getElem_mem hlt)
  have hnx:(s.t.ps[i].wait = 1 → ((i:Nat):Int) ∈ ks) → ∀ j,j < i + 1 → ∀ q,s.t.ps[j]? = some q → q.wait = 1 → timed s.t.ts (j:Nat):=fun g j hj q hq hw => by
   rcases Nat.lt_succ_iff_lt_or_eq.1 hj with h' | rfl
   ·exact hall2 j h' q hq hw
   ·rw [List.getElem?_eq_getElem hlt] at hq
    cases hq
    exact (hks _).1 (g hw)
  have bad:s.t.ps[i].wait = 1 → ((i:Nat):Int) ∉ ks → V.bool false = V.bool (decide (TimedOk s.t)):=fun g g' => boolF fun o => g' ((hks _).2 (o.2 i hlt _ (List.getElem?_eq_getElem hlt) g))
  have ad:=addN hlt ht.big.1
  have nk:¬ (1 = K.next):=by omega
  have gi:∀ {b:Blk} {b':Blk} {Q:V → Heap → Prop},Run (getMz (.bool false) false (.mp 1) (.int .i64 ((i:Nat):Int))) ((K.add b).set K.next b') Q ↔ Q (.bool (decide (((i:Nat):Int) ∈ ks))) ((K.add b).set K.next b'):=fun {b b' Q} => Run.getIn (by rw [Heap.set_blk,if_neg nk,Heap.add_blk,if_neg nk]; exact hb1)
  generalize s.t.ps[i] = P at *
  simp only [ferry_valid_asked_timed_l2]
  (repeat' (first | (simp only [wp,extractV,w0,reduceIte,Nat.reduceAdd,Nat.reduceLT,Nat.reduceLeDiff,Nat.reduceEqDiff,ltT hlt,i2,ad,pr_wait hw,pr_len hw,pr_take hw,hf,gi,nk]) | (with_reducible ((first | apply xC | apply xG | apply xQ) <;> intro hb <;> try simp only [hb]))))
  all_goals simp only [beq_iff_eq,beq_eq_false_iff_ne,Bool.and_eq_true,Bool.or_eq_true,Bool.not_eq_true',Bool.not_eq_false',decide_eq_true_eq,decide_eq_false_iff_not,Bool.or_eq_false_iff,Bool.and_eq_false_iff,ne_eq] at *
  all_goals first
   | exact bad (by assumption) (by assumption)
   | exact ⟨hlt,Nat.lt_succ_of_lt hn,by simp [Heap.q_blk,Heap.q_next,Heap.q_floor,Heap.set_blk,Heap.set_next,Heap.set_floor,Heap.add_blk,Heap.add_next,Heap.add_floor,hn,nk,hb1],hnx fun _ => by assumption⟩
   | exact ⟨hlt,Nat.lt_succ_of_lt hn,by simp [Heap.q_blk,Heap.q_next,Heap.q_floor,Heap.set_blk,Heap.set_next,Heap.set_floor,Heap.add_blk,Heap.add_next,Heap.add_floor,hn,nk,hb1],hnx fun g => absurd g (by assumption)⟩
 ·simp only [ferry_valid_asked_timed_l2]
  (repeat' (first | (simp only [wp,extractV,w0,reduceIte,Nat.reduceAdd,Nat.reduceLT,Nat.reduceLeDiff,Nat.reduceEqDiff,ltF hlt]) | (with_reducible ((first | apply xC | apply xG | apply xQ) <;> intro hb <;> try simp only [hb]))))
  exact boolT ⟨hall,fun i hi => hall2 i (by omega)⟩
end Sy
end Go.Fv.Tr
