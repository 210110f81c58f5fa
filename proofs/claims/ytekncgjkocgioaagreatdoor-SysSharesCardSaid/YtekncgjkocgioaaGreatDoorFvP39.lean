/-
  A system call under way: the caller's box, its registers, its table. By an AI agent; no person has read it.
-/
import Derived.Test.YtekncgjkocgioaaGreatDoorFvP38
set_option linter.unusedVariables false
set_option linter.unusedSimpArgs false
set_option linter.unusedSectionVars false
/-! A system call under way: the caller's box, its registers, its table. -/
namespace Go.Fv.Tr
open Go Go.Fv Go.Fv.Pl Go.Proofs
variable {G:GV}
namespace Sy
variable {l m:List V} {s:St} {p:Pn} {x y z a b c d x' y' z' u v w g:V} {pr:List (List V)} {k:List V} {H H' K:Heap}
theorem MS.frame {P:Nat → Prop} (h:MS H l s x y z u v w g pr) (f:Frame H H' P) (hp:∀ n ∈ lv [x,y,z,u,v,w,g] ++ lr pr,¬ P n):MS H' l s x y z u v w g pr:=by
 have hl:∀ q ∈ [x,y,z,u,v,w,g],∀ n,loc q = some n → ¬ P n:=fun q hq n hn => hp n (List.mem_append_left _ (mem_lv.2 ⟨q,hq,hn⟩))
 exact ⟨h.eq,h.ps.frame f (hl _ (by simp)),h.q.frame f (hl _ (by simp)),h.ts.frame f (hl _ (by simp)),h.up.frame f (hl _ (by simp)),h.sems.frame f (hl _ (by simp)),h.ports.frame f (hl _ (by simp)),h.pages.frame f (hl _ (by simp)),
  h.row.frame f fun n hn => hp n (List.mem_append_right _ hn),h.nd⟩
theorem MS.lt (h:MS H l s x y z u v w g pr) {n:Nat} (hn:n ∈ lv [x,y,z,u,v,w,g] ++ lr pr):n < H.next:=by
 rcases List.mem_append.1 hn with hn | hn
 ·obtain ⟨q,hq,e⟩:=mem_lv.1 hn
  simp only [List.mem_cons,List.not_mem_nil,or_false] at hq
  rcases hq with rfl | rfl | rfl | rfl | rfl | rfl | rfl
  ·exact h.ps.loc_lt e
  ·exact h.q.loc_lt e
  ·exact h.ts.loc_lt e
  ·exact h.up.loc_lt e
  ·exact h.sems.loc_lt e
  ·exact h.ports.loc_lt e
  ·exact h.pages.loc_lt e
 ·exact h.row.lt hn
theorem MS.thaw_in (h:MS H l s x y z u v w g pr) (hb:StB s) (hK:∀ n,n < H.next → K.blk n = H.blk n):∃ l' x' y' z' u' v' w' g' pr',thawV true K (.agg l) = some (.agg l') ∧ StS l' s x' y' z' u' v' w' g' pr':=by
 have f:Frame H ⟨K.blk,H.next,H.floor⟩ (fun _ => False):=⟨Nat.le_refl _,rfl,fun n hn _ => hK n hn⟩
 obtain ⟨l',x',y',z',u',v',w',g',pr',e,hs⟩:=(h.frame f fun _ _ => id).thaw hb
 refine ⟨l',x',y',z',u',v',w',g',pr',?_,hs⟩
 have:(Fv.thaw true K:V → Option V) = Fv.thaw true ⟨K.blk,H.next,H.floor⟩:=funext fun q => mapM_eq (fun _ => rfl) q
 simp only [thawV,this] at e ⊢
 exact e
def setR (s:St) (pc:Int) (k:Nat) (n:Int):St:={ s with t:={ s.t with ps:=setP s.t.ps pc (fun q => { q with regs:=q.regs.set k n }) } }
def regAt (s:St) (pc:Int) (k:Nat):Int:=((at? s.t.ps pc).bind fun q => q.regs[k]?).getD 0
structure ClX (H:Heap) (i:Nat) (p:Pn) (s:St) (pc tk:Int) (rep:V) (ft:Int) (a b c d x y z u v w g:V) (pr:List (List V)):Prop where
 blk:H.blk i = some ⟨21,[[i64 p.id,.bool p.mob,a,b,c,i64 p.ev,d,i64 s.id,i64 s.fr,i64 s.ep,x,y,z,u,v,w,g,i64 pc,i64 tk,rep,i64 ft]]⟩
 lt:i < H.next
 pn:∃ l,PnS l p a b c d
 ms:∃ l,MS H l s x y z u v w g pr
 no:i ∉ lv [x,y,z,u,v,w,g] ++ lr pr
 pc:0 ≤ pc ∧ pc < s.t.ps.length
 sb:StB s
def fp (i:Nat) (x y z u v w g:V) (pr:List (List V)):List Nat:=i :: (lv [x,y,z,u,v,w,g] ++ lr pr)
def Cl (H:Heap) (i:Nat) (p:Pn) (s:St) (pc tk:Int) (rep:V) (ft:Int) (F:List Nat) (H':Heap):Prop :=
 ∃ a b c d x y z u v w g pr,ClX H' i p s pc tk rep ft a b c d x y z u v w g pr ∧ (∀ n ∈ fp i x y z u v w g pr,n ∈ F ∨ H.next ≤ n) ∧ Frame H H' (fun n => n ∈ F)
variable {i:Nat} {pc tk ft:Int} {rep:V}
theorem ClX.frame {P:Nat → Prop} (h:ClX H i p s pc tk rep ft a b c d x y z u v w g pr) (f:Frame H H' P) (hp:∀ n ∈ fp i x y z u v w g pr,¬ P n):ClX H' i p s pc tk rep ft a b c d x y z u v w g pr:=by
 obtain ⟨l,ms⟩:=h.ms
 exact ⟨(f.old i h.lt (hp i (List.mem_cons_self ..))).trans h.blk,Nat.lt_of_lt_of_le h.lt f.next,h.pn,⟨l,ms.frame f fun n hn => hp n (List.mem_cons_of_mem _ hn)⟩,h.no,h.pc,h.sb⟩
theorem ClX.refl (h:ClX H i p s pc tk rep ft a b c d x y z u v w g pr):Cl H i p s pc tk rep ft (fp i x y z u v w g pr) H:=⟨a,b,c,d,x,y,z,u,v,w,g,pr,h,fun n hn => .inl hn,Frame.refl _ _⟩
theorem Cl.trans {F F':List Nat} {s' s'':St} {H'':Heap} {rep' rep'':V} {ft' ft'':Int} (h:Cl H i p s' pc tk rep' ft' F H') (hF:∀ n ∈ F,n < H.next)
  (h2:∀ {a b c d x y z u v w g pr},ClX H' i p s' pc tk rep' ft' a b c d x y z u v w g pr → Cl H' i p s'' pc tk rep'' ft'' (fp i x y z u v w g pr) H''):Cl H i p s'' pc tk rep'' ft'' F H'':=by
 obtain ⟨a,b,c,d,x,y,z,u,v,w,g,pr,hx,hf,f⟩:=h
 obtain ⟨a2,b2,c2,d2,x2,y2,z2,u2,v2,w2,g2,pr2,hx2,hf2,f2⟩:=h2 hx
 have hn:=f.next
 refine ⟨a2,b2,c2,d2,x2,y2,z2,u2,v2,w2,g2,pr2,hx2,fun n hn' => ?_,⟨Nat.le_trans f.next f2.next,f2.floor.trans f.floor,fun n hn' hne => ?_⟩⟩
 ·rcases hf2 n hn' with h | h
  ·exact hf n h
  ·exact .inr (by omega)
 ·refine (f2.old n (by omega) fun g => ?_).trans (f.old n hn' hne)
  rcases hf n g with h | h
  ·exact hne h
  ·omega
theorem ClX.proc (h:ClX H i p s pc tk rep ft a b c d x y z u v w g pr):∃ lx bk q,loc x = some lx ∧ idxV 21 x (.int .i64 pc) = some (.ptr lx pc.toNat 0) ∧ H.blk lx = some bk ∧ bk.rows[pc.toNat]? = some (prRow q) ∧ pc.toNat < bk.rows.length ∧ at? s.t.ps pc = some q ∧ Wp q ∧ H.floor ≤ lx ∧ lx ≠ i ∧ lx ∈ fp i x y z u v w g pr:=by
 obtain ⟨l,ms⟩:=h.ms
 have hpc:=h.pc
 have hlt:pc.toNat < (s.t.ps.map prRow).length:=by rw [List.length_map]; omega
 obtain ⟨lx,bk,h1,h2,h3,h4,h5⟩:=ms.ps.idx (k:=.i64) hlt
 rw [Int.toNat_of_nonneg hpc.1] at h2
 rw [List.getElem_map] at h4
 have hmem:lx ∈ lv [x,y,z,u,v,w,g] ++ lr pr:=List.mem_append_left _ (mem_lv.2 ⟨x,by simp,h1⟩)
 exact ⟨lx,bk,_,h1,h2,h3,h4,(List.getElem?_eq_some_iff.1 h4).1,by unfold at?; rw [if_pos hpc.1,List.getElem?_eq_getElem (by omega)],h.sb.wp _ (List.getElem_mem _),h5,fun e => h.no (e ▸ hmem),List.mem_cons_of_mem _ hmem⟩
theorem prRow_reg {q:Pr} (hq:Wp q) {n:Nat} (hn:n < 16):(prRow q)[n]? = some (.int .u32 ((q.regs[n]?).getD 0)):=by
 have:n < q.regs.length:=by rw [show q.regs.length = 16 from hq]; exact hn
 unfold prRow
 rw [List.getElem?_append_left (by simpa using this),List.getElem?_map,List.getElem?_eq_getElem this]
 rfl
theorem aidx16 {lx i:Nat} {n:Nat} (hn:n < 16):aidxV 16 1 (.ptr lx i 0) (.int .i64 (n:Nat)) = some (.ptr lx i n):=by
 have h1:(0:Int) ≤ (n:Int) ∧ (n:Int) < ((16:Nat):Int):=by omega
 simp only [aidxV,if_pos h1,padd,Int.toNat_natCast,Nat.mul_one,Nat.zero_add]
set_option maxRecDepth 20000 in
theorem reg_run (nn:Nat) (h:ClX H i p s pc tk rep ft a b c d x y z u v w g pr) {n:Nat} (hn:n < 16) {Q:V → Heap → Prop} (q:Q (.int .u32 (regAt s pc n)) H) :
  Run (callV (cfg G) (sem (cfg G) (nn + 1)) 89 [.ptr i 0 0,.int .i64 (n:Nat)]) H Q:=by
 obtain ⟨lx,bk,qq,h1,h2,h3,h4,h5,h6,h7,h8,h9⟩:=h.proc
 have hb:=h.blk
 rw [callV_inl rfl,ferry_sys_caller_reg_eq]
 simp only [ferry_sys_caller_reg]
 have hr:=prRow_reg h7 hn
 (repeat' (first | (simp only [wp,extractV,w0,reduceIte,Nat.reduceAdd,Nat.reduceLT,Nat.reduceLeDiff,Nat.reduceEqDiff,hb,nil_ptr,h2,aidx16 hn,h3,h4,hr]) | (with_reducible ((first | apply xC | apply xG | apply xQ) <;> intro hb <;> try simp only [hb]))))
 have e:regAt s pc n = (qq.regs[n]?).getD 0:=by
  unfold regAt
  rw [h6]
  rfl
 rw [← e]
 exact q
theorem setP_len (ps:List Pr) (n:Int) (f:Pr → Pr):(setP ps n f).length = ps.length:=by unfold setP; simp
theorem setP_rows {ps:List Pr} {n:Nat} {f:Pr → Pr} (h:n < ps.length):(setP ps (n:Int) f).map prRow = (ps.map prRow).set n (prRow (f ps[n])):=by
 unfold setP
 rw [Int.toNat_natCast]
 refine List.ext_getElem? fun j => ?_
 rw [List.getElem?_map,List.getElem?_modify,List.getElem?_set]
 by_cases hj:n = j
 ·subst hj
  simp [h]
 ·simp [hj]
theorem StB.setR {s:St} (h:StB s) (pc:Int) (k:Nat) (n:Int):StB (setR s pc k n):=by
 refine ⟨fun q hq => ?_,?_,h.up,h.sems,h.ports,h.pages,h.msgs,h.data⟩
 ·unfold Sy.setR setP at hq
  simp only [] at hq
  obtain ⟨j,hj,rfl⟩:=List.mem_iff_getElem.1 hq
  rw [List.getElem_modify]
  have:=h.wp _ (List.getElem_mem (show j < s.t.ps.length by simpa using hj))
  split
  ·unfold Wp at this ⊢
   simpa using this
  ·exact this
 ·unfold Sy.setR
  simp only [setP_len]
  exact h.t
theorem prRow_set {q:Pr} (hq:Wp q) {k:Nat} (hk:k < 16) (n:Int):(prRow q).take k ++ [.int .u32 n] ++ (prRow q).drop (k + 1) = prRow { q with regs:=q.regs.set k n }:=by
 have hl:k < q.regs.length:=by rw [show q.regs.length = 16 from hq]; exact hk
 unfold prRow
 simp only [List.map_set]
 rw [List.take_append_of_le_length (by rw [List.length_map]; omega),List.drop_append_of_le_length (by rw [List.length_map]; omega),List.append_assoc,← List.append_assoc [_],← List.append_assoc (List.take _ _)]
 congr 1
 rw [List.set_eq_take_append_cons_drop]
 simp [hl]
theorem lv_app (A B:List V):lv (A ++ B) = lv A ++ lv B:=List.filterMap_append
theorem nd_ne {A B:List V} {q:V} {n:Nat} {P:List Nat} (h:(lv (A ++ q :: B) ++ P).Nodup) (hq:loc q = some n):(∀ r ∈ A ++ B,∀ k,loc r = some k → k ≠ n) ∧ ∀ k ∈ P,k ≠ n:=by
 rw [lv_app,lv_cons,hq] at h
 simp only [Option.toList_some,List.singleton_append,List.append_assoc,List.nodup_append,List.cons_append,List.nodup_cons,List.mem_append,List.mem_cons,not_or] at h
 obtain ⟨_,⟨⟨n1,n2⟩,_⟩,h2⟩:=h
 refine ⟨fun r hr k hk e => ?_,fun k hk e => n2.2 (e ▸ hk)⟩
 subst e
 rcases List.mem_append.1 hr with hr | hr
 ·exact h2 k (mem_lv.2 ⟨r,hr,hk⟩) k (.inl rfl) rfl
 ·exact n2.1 (mem_lv.2 ⟨r,hr,hk⟩)
set_option maxRecDepth 20000 in
theorem ClX.store (h:ClX H i p s pc tk rep ft a b c d x y z u v w g pr) (hf:H.floor = 0) {k:Nat} (hk:k < 16) (n:Int):∃ lx bk row,idxV 21 x (.int .i64 pc) = some (.ptr lx pc.toNat 0) ∧ H.blk lx = some bk ∧ bk.rows[pc.toNat]? = some row ∧ H.floor ≤ lx ∧ lx ≠ i ∧ k + 1 ≤ row.length ∧
  Cl H i p (setR s pc k n) pc tk rep ft (fp i x y z u v w g pr) (H.set lx ⟨bk.sz,bk.rows.set pc.toNat (row.take k ++ [.int .u32 n] ++ row.drop (k + 1))⟩):=by
 obtain ⟨lx,bk,q,h1,h2,h3,h4,h5,h6,h7,h8,h9,h10⟩:=h.proc
 refine ⟨lx,bk,prRow q,h2,h3,h4,h8,h9,by rw [pr_len h7]; omega,a,b,c,d,x,y,z,u,v,w,g,pr,⟨?_,h.lt,h.pn,?_,h.no,?_,h.sb.setR _ _ _⟩,fun n hn => .inl hn,Frame.set _ _ h10⟩
 ·rw [Heap.set_blk,if_neg (Ne.symm h9)]
  exact h.blk
 ·obtain ⟨l,ms⟩:=h.ms
  have hpc:=h.pc
  have hlt:pc.toNat < s.t.ps.length:=by omega
  have eq:s.t.ps[pc.toNat] = q:=by
   unfold at? at h6
   rw [if_pos hpc.1,List.getElem?_eq_getElem hlt] at h6
   exact Option.some.inj h6
  have er:(setR s pc k n).t.ps.map prRow = (s.t.ps.map prRow).set pc.toNat ((prRow q).take k ++ [.int .u32 n] ++ (prRow q).drop (k + 1)):=by
   rw [prRow_set h7 hk,← eq]
   have:=setP_rows (f:=fun q => { q with regs:=q.regs.set k n }) hlt
   rw [Int.toNat_of_nonneg hpc.1] at this
   exact this
  obtain ⟨d1,d2⟩:=nd_ne (A:=[]) (B:=[y,z,u,v,w,g]) ms.nd h1
  have f:Frame H (H.set lx ⟨bk.sz,bk.rows.set pc.toNat ((prRow q).take k ++ [.int .u32 n] ++ (prRow q).drop (k + 1))⟩) (fun m => m = lx):=Frame.set _ _ rfl
  refine ⟨_,rfl,?_,ms.q.frame f (d1 _ (by simp)),ms.ts.frame f (d1 _ (by simp)),ms.up.frame f (d1 _ (by simp)),ms.sems.frame f (d1 _ (by simp)),ms.ports.frame f (d1 _ (by simp)),ms.pages.frame f (d1 _ (by simp)),ms.row.frame f d2,ms.nd⟩
  rw [er]
  exact ms.ps.put h1 h3 _
 ·unfold Sy.setR
  simp only [setP_len]
  exact h.pc
set_option maxRecDepth 20000 in
theorem answer_run (nn:Nat) (h:ClX H i p s pc tk rep ft a b c d x y z u v w g pr) (hf:H.floor = 0) (n:Int) :
  Run (callV (cfg G) (sem (cfg G) (nn + 1)) 82 [.ptr i 0 0,.int .u32 n]) H fun r H' => r = .tuple [] ∧ Cl H i p (setR s pc 1 n) pc tk rep ft (fp i x y z u v w g pr) H':=by
 obtain ⟨lx,bk,row,h1,h2,h3,h4,h5,h6,h7⟩:=h.store hf (k:=1) (by decide) n
 have hb:=h.blk
 have ha:aidxV 16 1 (.ptr lx pc.toNat 0) (.int .i64 1) = some (.ptr lx pc.toNat 1):=aidx16 (n:=1) (by decide)
 rw [callV_inl rfl,ferry_sys_caller_answer_eq]
 simp only [ferry_sys_caller_answer]
 have h6':2 ≤ row.length:=h6
 (repeat' (first | (simp only [wp,extractV,w0,reduceIte,Nat.reduceAdd,Nat.reduceLT,Nat.reduceLeDiff,Nat.reduceEqDiff,hb,nil_ptr,h1,ha,h2,h3,h4,h6']) | (with_reducible ((first | apply xC | apply xG | apply xQ) <;> intro hb <;> try simp only [hb]))))
 exact h7
theorem conv_u64 {n:Int} (h0:0 ≤ n) (h:n < 18446744073709551616) {k:IntKind}:convI .u64 (.int k n) = some (.int .u64 n):=by
 have:IntKind.u64.wrap n = n:=Go.IntWalk.u64_in _ ⟨h0,by omega⟩
 simp [convI,this]
theorem conv_i64 {n:Int} (h0:-9223372036854775808 ≤ n) (h:n ≤ 9223372036854775807) {k:IntKind}:convI .i64 (.int k n) = some (.int .i64 n):=by
 have:IntKind.i64.wrap n = n:=Go.IntWalk.i64_in _ ⟨h0,h⟩
 simp [convI,this]
def RegOk (n:Int):Prop:=0 ≤ n ∧ n < 4294967296
set_option maxRecDepth 20000 in
theorem index_run (nn:Nat) (h:ClX H i p s pc tk rep ft a b c d x y z u v w g pr) (hf:H.floor = 0) (hr:RegOk (regAt s pc 1)) {N:Int} (hN:0 ≤ N ∧ N ≤ 9223372036854775807) {Q:V → Heap → Prop}
  (q1:regAt s pc 1 < N → Q (.tuple [i64 (regAt s pc 1),.bool true]) H) (q2:N ≤ regAt s pc 1 → ∀ H',Cl H i p (setR s pc 1 4294967295) pc tk rep ft (fp i x y z u v w g pr) H' → Q (.tuple [i64 0,.bool false]) H') :
  Run (callV (cfg G) (sem (cfg G) (nn + 2)) 87 [.ptr i 0 0,i64 N]) H Q:=by
 rw [callV_inl rfl,ferry_sys_caller_index_eq]
 simp only [ferry_sys_caller_index]
 obtain ⟨r0,r1⟩:=hr
 (repeat' (first | (simp only [wp,extractV,w0,reduceIte,Nat.reduceAdd,Nat.reduceLT,Nat.reduceLeDiff,Nat.reduceEqDiff]) | (with_reducible ((first | apply xC | apply xG | apply xQ) <;> intro hb <;> try simp only [hb]))))
 refine reg_run (nn) h (n:=1) (by decide) ?_
 by_cases hc:regAt s pc 1 < N
 ·(repeat' (first | (simp only [wp,extractV,w0,reduceIte,Nat.reduceAdd,Nat.reduceLT,Nat.reduceLeDiff,Nat.reduceEqDiff,conv_u64 r0 (show regAt s pc 1 < 18446744073709551616 by omega),conv_u64 hN.1 (show N < 18446744073709551616 by omega),conv_i64 (show -9223372036854775808 ≤ regAt s pc 1 by omega) (show regAt s pc 1 ≤ 9223372036854775807 by omega),decide_eq_true hc]) | (with_reducible ((first | apply xC | apply xG | apply xQ) <;> intro hb <;> try simp only [hb]))))
  exact q1 hc
 ·(repeat' (first | (simp only [wp,extractV,w0,reduceIte,Nat.reduceAdd,Nat.reduceLT,Nat.reduceLeDiff,Nat.reduceEqDiff,conv_u64 r0 (show regAt s pc 1 < 18446744073709551616 by omega),conv_u64 hN.1 (show N < 18446744073709551616 by omega),decide_eq_false hc]) | (with_reducible ((first | apply xC | apply xG | apply xQ) <;> intro hb <;> try simp only [hb]))))
  refine (answer_run nn h hf _).mono fun r H' e => ?_
  (repeat' (first | (simp only [wp,extractV,w0,reduceIte,Nat.reduceAdd,Nat.reduceLT,Nat.reduceLeDiff,Nat.reduceEqDiff]) | (with_reducible ((first | apply xC | apply xG | apply xQ) <;> intro hb <;> try simp only [hb]))))
  exact q2 (by omega) H' e.2
def timeOk (n:Int):Prop:=n ≤ 1000000 ∨ n = 4294967295
instance (n:Int):Decidable (timeOk n):=inferInstanceAs (Decidable (_ ∨ _))
set_option maxRecDepth 20000 in
theorem timeout_run (nn:Nat) (h:ClX H i p s pc tk rep ft a b c d x y z u v w g pr) (hf:H.floor = 0) {Q:V → Heap → Prop}
  (q1:timeOk (regAt s pc 2) → Q (.bool true) H) (q2:¬ timeOk (regAt s pc 2) → ∀ H',Cl H i p (setR s pc 1 4294967295) pc tk rep ft (fp i x y z u v w g pr) H' → Q (.bool false) H') :
  Run (callV (cfg G) (sem (cfg G) (nn + 2)) 93 [.ptr i 0 0]) H Q:=by
 rw [callV_inl rfl,ferry_sys_caller_timeout_eq]
 simp only [ferry_sys_caller_timeout]
 (repeat' (first | (simp only [wp,extractV,w0,reduceIte,Nat.reduceAdd,Nat.reduceLT,Nat.reduceLeDiff,Nat.reduceEqDiff]) | (with_reducible ((first | apply xC | apply xG | apply xQ) <;> intro hb <;> try simp only [hb]))))
 refine reg_run (nn) h (n:=2) (by decide) ?_
 by_cases h1:1000000 < regAt s pc 2
 ·by_cases h2:regAt s pc 2 = 4294967295
  ·have e:(regAt s pc 2 == 4294967295) = true:=by simpa using h2
   (repeat' (first | (simp only [wp,extractV,w0,reduceIte,Nat.reduceAdd,Nat.reduceLT,Nat.reduceLeDiff,Nat.reduceEqDiff,decide_eq_true h1,e]) | (with_reducible ((first | apply xC | apply xG | apply xQ) <;> intro hb <;> try simp only [hb]))))
   exact q1 (.inr h2)
  ·have e:(regAt s pc 2 == 4294967295) = false:=by simpa using h2
   (repeat' (first | (simp only [wp,extractV,w0,reduceIte,Nat.reduceAdd,Nat.reduceLT,Nat.reduceLeDiff,Nat.reduceEqDiff,decide_eq_true h1,e]) | (with_reducible ((first | apply xC | apply xG | apply xQ) <;> intro hb <;> try simp only [hb]))))
   refine (answer_run nn h hf _).mono fun r H' e => ?_
   (repeat' (first | (simp only [wp,extractV,w0,reduceIte,Nat.reduceAdd,Nat.reduceLT,Nat.reduceLeDiff,Nat.reduceEqDiff]) | (with_reducible ((first | apply xC | apply xG | apply xQ) <;> intro hb <;> try simp only [hb]))))
   exact q2 (by unfold timeOk; omega) H' e.2
 ·(repeat' (first | (simp only [wp,extractV,w0,reduceIte,Nat.reduceAdd,Nat.reduceLT,Nat.reduceLeDiff,Nat.reduceEqDiff,decide_eq_false h1]) | (with_reducible ((first | apply xC | apply xG | apply xQ) <;> intro hb <;> try simp only [hb]))))
  exact q1 (.inl (by omega))
end Sy
end Go.Fv.Tr
namespace Go.Fv.Tr
open Go Go.Fv Go.Fv.Pl Go.Proofs
variable {G:GV}
namespace Sy
variable {l m:List V} {s:St} {p:Pn} {x y z a b c d x' y' z' u v w g:V} {pr:List (List V)} {k:List V} {H H' K:Heap} {i:Nat} {pc tk ft:Int} {rep:V}
theorem own_some {xx:V} {sz:Nat} {rows:List (List V)} (h:Own H xx sz rows) {n:Nat} (hn:loc xx = some n):∃ b,H.blk n = some b:=by
 rcases h with ⟨rfl | rfl,_⟩ | ⟨l',n',c,ex,b,rfl,h1,_⟩
 ·cases hn
 ·cases hn
 ·cases hn; exact ⟨b,h1⟩
theorem ClX.some (h:ClX H i p s pc tk rep ft a b c d x y z u v w g pr) {n:Nat} (hn:n ∈ fp i x y z u v w g pr):∃ b,H.blk n = some b:=by
 obtain ⟨l,ms⟩:=h.ms
 rcases List.mem_cons.1 hn with rfl | hn
 ·exact ⟨_,h.blk⟩
 ·rcases List.mem_append.1 hn with hn | hn
  ·obtain ⟨q,hq,e⟩:=mem_lv.1 hn
   simp only [List.mem_cons,List.not_mem_nil,or_false] at hq
   rcases hq with rfl | rfl | rfl | rfl | rfl | rfl | rfl
   ·exact own_some ms.ps e
   ·exact own_some ms.q e
   ·exact own_some ms.ts e
   ·exact own_some ms.up e
   ·exact own_some ms.sems e
   ·exact own_some ms.ports e
   ·exact own_some ms.pages e
  ·obtain ⟨r,hr,e⟩:=List.mem_filterMap.1 hn
   obtain ⟨j,hj,rfl⟩:=List.mem_iff_getElem.1 hr
   obtain ⟨mm,er,ho,_⟩:=ms.row.row j hj
   rw [er] at e
   exact own_some ho e
theorem run_t {vis:Nat → Bool} {M0:M V} {r:V} {s':St} {rep':V} {ft':Int} (hx:ClX H i p s pc tk rep ft a b c d x y z u v w g pr) (hv:∀ n,n < H.next → vis n = true) (hf:H.floor = 0)
  (h:∀ K,ClX K i p s pc tk rep ft a b c d x y z u v w g pr → K.floor = 0 → Run M0 K fun q K' => q = r ∧ Cl K i p s' pc tk rep' ft' (fp i x y z u v w g pr) K') {Q:V → Heap → Prop}
  (q:∀ H',Cl H i p s' pc tk rep' ft' (fp i x y z u v w g pr) H' → Q r H'):Run (trun vis M0) H Q:=by
 refine Run.trunI ?_
 have fK:Frame H ⟨fun l => if vis l then H.blk l else none,H.next,H.floor⟩ (fun _ => False):=⟨Nat.le_refl _,rfl,fun n hn _ => by simp only [hv n hn,if_true]⟩
 refine (h _ (hx.frame fK fun _ _ => id) hf).mono fun y' K' ⟨e,hc⟩ => ?_
 subst e
 obtain ⟨a2,b2,c2,d2,x2,y2,z2,u2,v2,w2,g2,pr2,hx2,hf2,f2⟩:=hc
 refine q _ ⟨a2,b2,c2,d2,x2,y2,z2,u2,v2,w2,g2,pr2,hx2.frame (P:=fun n => n < H.next ∧ n ∉ fp i x y z u v w g pr) ⟨Nat.le_refl _,f2.floor.symm,fun n hn hP => ?_⟩ fun n hn hP => ?_,hf2,f2.t⟩
 ·show (if n < H.next then (if vis n && decide (H.floor ≤ n) && (H.blk n).isSome then K'.blk n else H.blk n) else K'.blk n) = K'.blk n
  by_cases hn':n < H.next
  ·have hm:n ∈ fp i x y z u v w g pr:=Classical.byContradiction fun g => hP ⟨hn',g⟩
   obtain ⟨bb,hb⟩:=hx.some hm
   rw [if_pos hn',hv n hn',hb,hf]
   simp
  ·rw [if_neg hn']
 ·rcases hf2 n hn with h1 | h1
  ·exact hP.2 h1
  ·exact absurd hP.1 (Nat.not_lt.2 h1)
set_option maxRecDepth 20000 in
theorem of_says (n:Nat) (hs:StS l s x y z u v w g pr) (hb:StB s):Says (cfg G) (sem (cfg G) (n + 2)) 135 [.agg l] fun r => ∃ a b c,r = .agg [a,b,c] ∧ IsTab a b c s.t:=by
 intro ok
 have hrb:=room_big
 obtain ⟨rfl,ht,-⟩:=hs
 rw [ferry_ready_Of_eq]
 simp only [ferry_ready_Of]
 (repeat' (first | (simp only [wp,extractV,w0,reduceIte,Nat.reduceAdd,Nat.reduceLT,Nat.reduceLeDiff,Nat.reduceEqDiff]) | (with_reducible ((first | apply xC | apply xG | apply xQ) <;> intro hb <;> try simp only [hb]))))
 generalize hH0:((Heap.empty.add ⟨10,[[i64 s.id,i64 s.fr,i64 s.ep,x,y,z,u,v,w,g]]⟩).add ⟨3,[[.nils,.nils,.nils]]⟩) = H0
 have e0:H0.next = 2:=by rw [← hH0]; rfl
 have b0:H0.blk 0 = some ⟨10,[[i64 s.id,i64 s.fr,i64 s.ep,x,y,z,u,v,w,g]]⟩:=by rw [← hH0]; rfl
 have b1:H0.blk 1 = some ⟨3,[[.nils,.nils,.nils]]⟩:=by rw [← hH0]; rfl
 have fl0:H0.floor = 0:=by rw [← hH0]; rfl
 clear hH0
 refine New_q (by omega) (fun K' hK' => clone72 (n + 0) ht.p (flat_prs _) (by simpa using hb.t.1) hK') fun x1 H1 o1 f1 l1 => ?_
 have b0:=(f1.old 0 (by omega) id).trans b0
 have b1:=(f1.old 1 (by omega) id).trans b1
 have fl1:=f1.floor.trans fl0
 have n1:=f1.next
 (repeat' (first | (simp only [wp,extractV,w0,reduceIte,Nat.reduceAdd,Nat.reduceLT,Nat.reduceLeDiff,Nat.reduceEqDiff,b0]) | (with_reducible ((first | apply xC | apply xG | apply xQ) <;> intro hb <;> try simp only [hb]))))
 refine New_q (by omega) (fun K' hK' => clone73 (n + 0) ht.q (flat_ints _) (by simpa using hb.t.2.1) hK') fun y1 H2 o2 f2 l2 => ?_
 have b0:=(f2.old 0 (by omega) id).trans b0
 have b1:=(f2.old 1 (by omega) id).trans b1
 have fl2:=f2.floor.trans fl1
 have n2:=f2.next
 (repeat' (first | (simp only [wp,extractV,w0,reduceIte,Nat.reduceAdd,Nat.reduceLT,Nat.reduceLeDiff,Nat.reduceEqDiff,b0]) | (with_reducible ((first | apply xC | apply xG | apply xQ) <;> intro hb <;> try simp only [hb]))))
 refine New_q (by omega) (fun K' hK' => clone74 (n + 0) ht.s (flat_tms _) (by simpa using hb.t.2.2) hK') fun z1 H3 o3 f3 l3 => ?_
 have b1:=(f3.old 1 (by omega) id).trans b1
 have fl3:=f3.floor.trans fl2
 have n3:=f3.next
 have fl3':H3.floor ≤ 1:=by omega
 (repeat' (first | (simp only [wp,extractV,w0,reduceIte,Nat.reduceAdd,Nat.reduceLT,Nat.reduceLeDiff,Nat.reduceEqDiff,b1,fl3',o1.cells,o2.cells,o3.cells,buildV,fill,putRow,tupV]) | (with_reducible ((first | apply xC | apply xG | apply xQ) <;> intro hb <;> try simp only [hb]))))
 have fz:Frame H3 (H3.set 1 ⟨3,[[x1,y1,z1]]⟩) (fun q => q = 1):=Frame.set _ _ rfl
 obtain ⟨p1,t1,s1⟩:=(((o1.frame f2 fun _ _ => id).frame f3 fun _ _ => id).frame fz fun q h1 h2 => by have:=l1 q h1; omega).thaw (flat_prs _) ok
 obtain ⟨p2,t2,s2⟩:=((o2.frame f3 fun _ _ => id).frame fz fun q h1 h2 => by have:=l2 q h1; omega).thaw (flat_ints _) ok
 obtain ⟨p3,t3,s3⟩:=(o3.frame fz fun q h1 h2 => by have:=l3 q h1; omega).thaw (flat_tms _) ok
 refine ⟨.agg [p1,p2,p3],?_,p1,p2,p3,rfl,s1,s2,s3,hb.wp,by have:=hb.t.1; omega,by have:=hb.t.2.1; omega,by have:=hb.t.2.2; omega⟩
 simp only [thawV,List.mapM_cons,List.mapM_nil,t1,t2,t3]
 rfl
set_option maxRecDepth 20000 in
theorem table_run (n:Nat) (h:ClX H i p s pc tk rep ft a b c d x y z u v w g pr) (hn:K.next = H.next) (hb:∀ q,q < H.next → K.blk q = H.blk q) (hK:K.floor ≤ K.next) :
  Run (callV (cfg G) (sem (cfg G) (n + 3)) 85 [.ptr i 0 0]) K fun r K' => (∃ a b c,r = .agg [a,b,c] ∧ IsTab a b c s.t) ∧ Frame K K' (fun _ => False):=by
 obtain ⟨l,ms⟩:=h.ms
 have hlt:=h.lt
 have hbi:K.blk i = _:=(hb i hlt).trans h.blk
 have hi:¬ (i = K.next):=by omega
 rw [callV_inl rfl,ferry_sys_caller_table_eq]
 simp only [ferry_sys_caller_table]
 (repeat' (first | (simp only [wp,extractV,w0,reduceIte,Nat.reduceAdd,Nat.reduceLT,Nat.reduceLeDiff,Nat.reduceEqDiff,hbi,nil_ptr,hi]) | (with_reducible ((first | apply xC | apply xG | apply xQ) <;> intro hb <;> try simp only [hb]))))
 obtain ⟨l',x',y',z',u',v',w',g',pr',e,hs⟩:=ms.thaw_in (K:=K.add ⟨3,[[.nils,.nils,.nils]]⟩) h.sb fun q hq => by rw [Heap.add_blk,if_neg (by omega)]; exact hb q hq
 rw [ms.eq] at e
 refine Run.ans rfl (bs:=[.agg l']) (by rw [List.mapM_cons,e]; rfl) (of_says n hs h.sb) fun r ⟨a1,b1,c1,er,ht⟩ => ?_
 subst er
 (repeat' (first | (simp only [wp,extractV,w0,reduceIte,Nat.reduceAdd,Nat.reduceLT,Nat.reduceLeDiff,Nat.reduceEqDiff,hK]) | (with_reducible ((first | apply xC | apply xG | apply xQ) <;> intro hb <;> try simp only [hb]))))
 exact ⟨⟨a1,b1,c1,rfl,ht⟩,(Frame.add _ _).st (Nat.le_refl _) _⟩
theorem own_fl {xx:V} {sz:Nat} {rows:List (List V)} (h:Own K xx sz rows) (hb:H.blk = K.blk) (hn:H.next = K.next) (hf:∀ n,loc xx = some n → H.floor ≤ n):Own H xx sz rows:=by
 rcases h with h | ⟨l',n',c,ex,b,rfl,h1,h2,h3,h4⟩
 ·exact .inl h
 ·exact .inr ⟨l',n',c,ex,b,rfl,by rw [hb]; exact h1,hf _ rfl,by rw [hn]; exact h3,h4⟩
theorem MS.fl (h:MS K l s x y z u v w g pr) (hb:H.blk = K.blk) (hn:H.next = K.next) (hf:∀ n ∈ lv [x,y,z,u,v,w,g] ++ lr pr,H.floor ≤ n):MS H l s x y z u v w g pr:=by
 have hl:∀ q ∈ [x,y,z,u,v,w,g],∀ n,loc q = some n → H.floor ≤ n:=fun q hq n hn => hf n (List.mem_append_left _ (mem_lv.2 ⟨q,hq,hn⟩))
 refine ⟨h.eq,own_fl h.ps hb hn (hl _ (by simp)),own_fl h.q hb hn (hl _ (by simp)),own_fl h.ts hb hn (hl _ (by simp)),own_fl h.up hb hn (hl _ (by simp)),own_fl h.sems hb hn (hl _ (by simp)),own_fl h.ports hb hn (hl _ (by simp)),own_fl h.pages hb hn (hl _ (by simp)),⟨h.row.len,fun j hj => ?_⟩,h.nd⟩
 obtain ⟨mm,er,ho,hl'⟩:=h.row.row j hj
 exact ⟨mm,er,own_fl ho hb hn fun n e => hf n (List.mem_append_right _ (List.mem_filterMap.2 ⟨_,List.getElem_mem hj,by rw [er]; exact e⟩)),hl'⟩
theorem q_newst {vis:Nat → Bool} {M0:M V} {s':St} (hv:∀ n,n < H.next → vis n = true) (hf:H.floor ≤ H.next)
  (h:∀ K:Heap,K.next = H.next → K.floor ≤ K.next → (∀ n,n < H.next → K.blk n = H.blk n) → Run M0 K (NewSt K s')) {Q:V → Heap → Prop} (q:∀ r H',NewSt H s' r H' → Q r H'):Run (qrun vis M0) H Q:=by
 refine Run.qAll (P:=fun r K' => ∃ l x y z u v w g pr,r = .agg l ∧ MS K' l s' x y z u v w g pr ∧ ∀ n ∈ lv [x,y,z,u,v,w,g] ++ lr pr,H.next ≤ n) hv (fun K k1 k2 k3 => ?_) fun r K' H' ⟨l,x,y,z,u,v,w,g,pr,e,ms,hge⟩ f hb hn => ?_
 ·refine (h K k1 k2 k3).mono fun r K' ⟨l,x,y,z,u,v,w,g,pr,e,ms,f,hge⟩ => ⟨f,l,x,y,z,u,v,w,g,pr,e,ms,fun n hn => ?_⟩
  rw [← k1]
  exact hge n hn
 ·refine q r H' ⟨l,x,y,z,u,v,w,g,pr,e,ms.fl hb hn fun n hn' => ?_,f,hge⟩
  rw [f.floor]
  exact Nat.le_trans hf (hge n hn')
theorem IsTab.bnd {t:Tab} (h:IsTab a b c t) (hl:t.ps.length ≤ 8 ∧ t.q.length ≤ 8 ∧ t.ts.length ≤ 8):TbB t:=⟨h.wp,by unfold room; omega,by unfold room; omega,by unfold room; omega⟩
theorem StB.tab {s:St} (h:StB s) {t:Tab} (ht:TbB t):StB { s with t:=t }:=⟨ht.1,ht.2,h.up,h.sems,h.ports,h.pages,h.msgs,h.data⟩
set_option maxRecDepth 20000 in
set_option maxHeartbeats 1000000 in
theorem change_run (n:Nat) (h:ClX H i p s pc tk rep ft a b c d x y z u v w g pr) (hf:H.floor = 0) {t:Tab} {a1 b1 c1:V} (ht:IsTab a1 b1 c1 t) (htb:TbB t) (hpc:pc < t.ps.length) :
  Run (callV (cfg G) (sem (cfg G) (n + 4)) 83 [.ptr i 0 0,.agg [a1,b1,c1],.nili]) H fun r H' => r = .tuple [] ∧ Cl H i p { s with t:=t } pc tk rep ft (fp i x y z u v w g pr) H':=by
 have hms:=h.ms
 obtain ⟨l,ms⟩:=hms
 have hlt:=h.lt
 have hb:=h.blk
 have hi:¬ (i = H.next):=by omega
 rw [callV_inl rfl,ferry_sys_caller_change_eq]
 simp only [ferry_sys_caller_change]
 (repeat' (first | (simp only [wp,extractV,w0,reduceIte,Nat.reduceAdd,Nat.reduceLT,Nat.reduceLeDiff,Nat.reduceEqDiff,hb,nil_ptr,hi]) | (with_reducible ((first | apply xC | apply xG | apply xQ) <;> intro hb <;> try simp only [hb]))))
 have f0:Frame H (H.add ⟨3,[[a1,b1,c1]]⟩) (fun _ => False):=Frame.add _ _
 have fl:(H.add ⟨3,[[a1,b1,c1]]⟩).floor ≤ (H.add ⟨3,[[a1,b1,c1]]⟩).next:=by show H.floor ≤ H.next + 1; omega
 refine q_newst (s':={ s with t:=t }) (fun q hq => visB_low hq _) fl (fun K k1 k2 k3 => ?_) fun r H1 hN => ?_
 ·obtain ⟨l',x',y',z',u',v',w',g',pr',e,hs⟩:=ms.thaw_in (K:=K) h.sb fun q hq => (k3 q (by show q < H.next + 1; omega)).trans (by rw [Heap.add_blk,if_neg (by omega)])
  rw [ms.eq] at e
  refine Run.callOwn rfl (bs:=[.agg l',.agg [a1,b1,c1]]) ?_ (by simp [hs.closedV,ht.closed]) (into_new (n + 0) hs h.sb ht htb k2)
  rw [List.mapM_cons,e,List.mapM_cons,thawV_closed ht.closed]
  rfl
 ·obtain ⟨l2,x2,y2,z2,u2,v2,w2,g2,pr2,rfl,ms2,f2,hge⟩:=hN
  have e2:=ms2.eq
  subst e2
  have hn0:(H.add ⟨3,[[a1,b1,c1]]⟩).next = H.next + 1:=rfl
  have hb1:H1.blk i = _:=(f2.old i (by omega) id).trans ((f0.old i hlt id).trans hb)
  have fl1:H1.floor = 0:=by rw [f2.floor]; exact hf
  have nx:=f2.next
  (repeat' (first | (simp only [wp,extractV,w0,reduceIte,Nat.reduceAdd,Nat.reduceLT,Nat.reduceLeDiff,Nat.reduceEqDiff,hb1,nil_ptr,fl1]) | (with_reducible ((first | apply xC | apply xG | apply xQ) <;> intro hb <;> try simp only [hb]))))
  have fz:Frame H1 (H1.set i ⟨21,[[i64 p.id,.bool p.mob,a,b,c,i64 p.ev,d,i64 s.id,i64 s.fr,i64 s.ep,x2,y2,z2,u2,v2,w2,g2,i64 pc,i64 tk,rep,i64 ft]]⟩) (fun q => q = i):=Frame.set _ _ rfl
  have hni:∀ q ∈ lv [x2,y2,z2,u2,v2,w2,g2] ++ lr pr2,q ≠ i:=fun q hq e => by have:=hge q hq; omega
  refine ⟨a,b,c,d,x2,y2,z2,u2,v2,w2,g2,pr2,⟨by rw [Heap.set_blk,if_pos rfl],by show i < H1.next; omega,h.pn,⟨_,ms2.frame fz hni⟩,fun g => hni i g rfl,⟨h.pc.1,hpc⟩,h.sb.tab htb⟩,fun q hq => ?_,⟨by show H.next ≤ H1.next; omega,by show H1.floor = H.floor; omega,fun q hq hne => ?_⟩⟩
  ·rcases List.mem_cons.1 hq with rfl | hq
   ·exact .inl (List.mem_cons_self ..)
   ·have:=hge q hq
    exact .inr (by omega)
  ·have:q ≠ i:=fun e => hne (e ▸ List.mem_cons_self ..)
   rw [Heap.set_blk,if_neg this]
   exact (f2.old q (by omega) id).trans (f0.old q hq id)
end Sy
end Go.Fv.Tr
namespace Go.Fv.Tr
open Go Go.Fv Go.Proofs
set_option maxRecDepth 20000
noncomputable def ferry_ready_Block_j1 (G:GV) (call:CV) (aA:V) (aB:V):M R :=
 (loadN 3 aA).bind fun aC =>
 (storeN 3 aB aC).bind fun _ =>
 (M.ret V.nili).bind fun aD =>
 (((loadN 3 aB)).bind fun v => ((M.ret []).bind fun l => M.ret (aD :: l)).bind fun l => M.ret (v :: l)).bind fun l => M.ret (Ex.ret,tupV l)
noncomputable def ferry_ready_Block (G:GV) (call:CV) (x0:V) (x1:V) (x2:V) (x3:V) (x4:V):M R :=
 (newV x0).bind fun aA =>
 (newV (.agg [V.nils,V.nils,V.nils])).bind fun aB =>
 (M.ret V.nili).bind fun aC =>
 (loadN 3 aA).bind fun aD =>
 (M.ret x1).bind fun aE =>
 (sliceV 1 1 [(V.int .i64 0)] [(0,(V.int .i64 1))]).bind fun aF =>
 (callV (cfg G) call 133 [aD,aE,aF]).bind fun aG =>
 (M.ret aG).bind fun aH =>
 (M.lift (extractV aH 0)).bind fun aI =>
 (M.lift (extractV aH 1)).bind fun aJ =>
 (newV (.agg [V.nils,V.nils,V.nils])).bind fun aK =>
 (storeN 3 aK aI).bind fun _ =>
 (M.ret aJ).bind fun aL =>
 (M.ret aL).bind fun aM =>
 (M.lift ((eqV .iface true aM V.nili).bind fun b => some (.bool !b))).bind fun aN =>
 (condV aN
 ((M.lift (buildV [V.nils,V.nils,V.nils] [])).bind fun aO =>
 (M.ret aL).bind fun aP =>
 (storeN 3 aB aO).bind fun _ =>
 (M.ret aP).bind fun aQ =>
 (((loadN 3 aB)).bind fun v => ((M.ret []).bind fun l => M.ret (aQ :: l)).bind fun l => M.ret (v :: l)).bind fun l => M.ret (Ex.ret,tupV l))
 ((M.ret x2).bind fun aR =>
 (M.lift ((eqV (.sc .int) true aR (V.int .i64 1)).bind fun b => some (.bool b))).bind fun aS =>
 (M.ret aS).bind fun aT =>
 (M.ret x2).bind fun aU =>
 (M.lift (arithV .lss aU (V.int .i64 1))).bind fun aV =>
 (M.ret aV).bind fun aW =>
 (guardV aW false (M.ret x2)).bind fun aX =>
 (guardV aW false (M.lift (arithV .gtr aX (V.int .i64 4)))).bind fun aY =>
 (M.lift (pickV aW (V.bool true) aY)).bind fun aZ =>
 (M.ret aZ).bind fun bA =>
 (guardV bA false (M.ret x3)).bind fun bB =>
 (guardV bA false (M.lift (arithV .lss bB (V.int .i64 0)))).bind fun bC =>
 (M.lift (pickV bA (V.bool true) bC)).bind fun bD =>
 (M.ret bD).bind fun bE =>
 (guardV bE false (M.ret aT)).bind fun bF =>
 (guardV bE false (M.ret bF)).bind fun bG =>
 (guardV bG true (M.ret x3)).bind fun bH =>
 (guardV bG true (M.lift ((eqV (.sc .int) true bH (V.int .i64 0)).bind fun b => some (.bool !b)))).bind fun bI =>
 (guardV bG true (M.ret bI)).bind fun bJ =>
 (guardV bJ false (M.ret x4)).bind fun bK =>
 (guardV bJ false (M.lift ((eqV (.sc .int) true bK (V.int .i64 (-1))).bind fun b => some (.bool b)))).bind fun bL =>
 (guardV bG true (M.lift (pickV bJ (V.bool true) bL))).bind fun bM =>
 (guardV bE false (M.lift (pickV bG bM (V.bool false)))).bind fun bN =>
 (M.lift (pickV bE (V.bool true) bN)).bind fun bO =>
 (M.ret bO).bind fun bP =>
 (guardV bP false (M.ret x4)).bind fun bQ =>
 (guardV bP false (M.lift (arithV .lss bQ (V.int .i64 (-1))))).bind fun bR =>
 (M.lift (pickV bP (V.bool true) bR)).bind fun bS =>
 (M.ret bS).bind fun bT =>
 (guardV bT false (M.ret x4)).bind fun bU =>
 (guardV bT false (M.lift (arithV .gtr bU (V.int .i64 1010000)))).bind fun bV =>
 (M.lift (pickV bT (V.bool true) bV)).bind fun bW =>
 (condV bW
 (((M.lift (buildV [V.nils,V.nils,V.nils] [])).bind fun bX =>
 (load1 (glob (cfg G) 0)).bind fun bY =>
 guardM (apartV (glob (cfg G) 0) aB && true) (
 (storeN 3 aB bX).bind fun _ =>
 (M.ret bY).bind fun bZ =>
 (((loadN 3 aB)).bind fun v => ((M.ret []).bind fun l => M.ret (bZ :: l)).bind fun l => M.ret (v :: l)).bind fun l => M.ret (Ex.ret,tupV l))))
 ((M.ret x1).bind fun cA =>
 (callV (cfg G) call 134 [aK,cA]).bind fun cB =>
 (M.lift (padd 0 aK)).bind fun cC =>
 (load1 cC).bind fun cD =>
 (M.ret x1).bind fun cE =>
 (M.lift (idxV 21 cD cE)).bind fun cF =>
 (M.ret cF).bind fun cG =>
 (M.ret cG).bind fun cH =>
 (M.ret cG).bind fun cI =>
 (M.ret cG).bind fun cJ =>
 (M.ret x2).bind fun cK =>
 (M.ret x3).bind fun cL =>
 (M.lift (nilCheckV cH)).bind fun cM =>
 (M.lift (padd 17 cM)).bind fun cN =>
 (storeN 1 cN (V.int .i64 2)).bind fun _ =>
 (M.lift (nilCheckV cI)).bind fun cO =>
 (M.lift (padd 19 cO)).bind fun cP =>
 (storeN 1 cP cK).bind fun _ =>
 (M.lift (nilCheckV cJ)).bind fun cQ =>
 (M.lift (padd 20 cQ)).bind fun cR =>
 (storeN 1 cR cL).bind fun _ =>
 (M.ret x4).bind fun cS =>
 (M.lift (arithV .geq cS (V.int .i64 0))).bind fun cT =>
 (condV cT
 ((M.lift (padd 2 aK)).bind fun cU =>
 (load1 cU).bind fun cV =>
 (M.ret x1).bind fun cW =>
 (M.ret x4).bind fun cX =>
 (callV (cfg G) call 136 [cV,cW,cX]).bind fun cY =>
 (M.ret cY).bind fun cZ =>
 (M.lift (extractV cZ 0)).bind fun dA =>
 (M.lift (extractV cZ 1)).bind fun dB =>
 (M.lift (padd 2 aK)).bind fun dC =>
 (storeN 1 dC dA).bind fun _ =>
 (M.ret dB).bind fun dD =>
 (M.ret dD).bind fun dE =>
 (M.lift ((eqV .iface true dE V.nili).bind fun b => some (.bool !b))).bind fun dF =>
 (condV dF
 ((M.lift (buildV [V.nils,V.nils,V.nils] [])).bind fun dG =>
 (M.ret dD).bind fun dH =>
 (storeN 3 aB dG).bind fun _ =>
 (M.ret dH).bind fun dI =>
 (((loadN 3 aB)).bind fun v => ((M.ret []).bind fun l => M.ret (dI :: l)).bind fun l => M.ret (v :: l)).bind fun l => M.ret (Ex.ret,tupV l))
 (ferry_ready_Block_j1 G call aK aB)))
 (ferry_ready_Block_j1 G call aK aB))))))
theorem ferry_ready_Block_eq (G:GV) (n:Nat) (x0:V) (x1:V) (x2:V) (x3:V) (x4:V):sem (cfg G) (n + 1) 90 [x0,x1,x2,x3,x4] = outV (ferry_ready_Block G (sem (cfg G) n) x0 x1 x2 x3 x4) :=
 (fnV_at (C:=cfg G) (n:=n) (f:=90) (fn:=Tryz.f90) (c:=Tryz.f90.body.getD .skip) (by kernel_rfl) (by kernel_rfl) (by kernel_rfl) [x0,x1,x2,x3,x4]).trans (by kernel_rfl)
noncomputable def ferry_ready_Wake (G:GV) (call:CV) (x0:V) (x1:V) (x2:V):M R :=
 (newV x0).bind fun aA =>
 (newV (.agg [V.nils,V.nils,V.nils])).bind fun aB =>
 (M.ret V.nili).bind fun aC =>
 (loadN 3 aA).bind fun aD =>
 (M.ret x1).bind fun aE =>
 (sliceV 1 1 [(V.int .i64 0)] [(0,(V.int .i64 2))]).bind fun aF =>
 (callV (cfg G) call 133 [aD,aE,aF]).bind fun aG =>
 (M.ret aG).bind fun aH =>
 (M.lift (extractV aH 0)).bind fun aI =>
 (M.lift (extractV aH 1)).bind fun aJ =>
 (newV (.agg [V.nils,V.nils,V.nils])).bind fun aK =>
 (storeN 3 aK aI).bind fun _ =>
 (M.ret aJ).bind fun aL =>
 (M.ret aL).bind fun aM =>
 (M.lift ((eqV .iface true aM V.nili).bind fun b => some (.bool !b))).bind fun aN =>
 (condV aN
 ((M.lift (buildV [V.nils,V.nils,V.nils] [])).bind fun aO =>
 (M.ret aL).bind fun aP =>
 (storeN 3 aB aO).bind fun _ =>
 (M.ret aP).bind fun aQ =>
 (((loadN 3 aB)).bind fun v => ((M.ret []).bind fun l => M.ret (aQ :: l)).bind fun l => M.ret (v :: l)).bind fun l => M.ret (Ex.ret,tupV l))
 ((M.ret x1).bind fun aR =>
 (M.ret x2).bind fun aS =>
 (callV (cfg G) call 140 [aK,aR,aS]).bind fun aT =>
 (loadN 3 aK).bind fun aU =>
 (storeN 3 aB aU).bind fun _ =>
 (M.ret V.nili).bind fun aV =>
 (((loadN 3 aB)).bind fun v => ((M.ret []).bind fun l => M.ret (aV :: l)).bind fun l => M.ret (v :: l)).bind fun l => M.ret (Ex.ret,tupV l)))
theorem ferry_ready_Wake_eq (G:GV) (n:Nat) (x0:V) (x1:V) (x2:V):sem (cfg G) (n + 1) 96 [x0,x1,x2] = outV (ferry_ready_Wake G (sem (cfg G) n) x0 x1 x2) :=
 (fnV_at (C:=cfg G) (n:=n) (f:=96) (fn:=Tryz.f96) (c:=Tryz.f96.body.getD .skip) (by kernel_rfl) (by kernel_rfl) (by kernel_rfl) [x0,x1,x2]).trans (by kernel_rfl)
end Go.Fv.Tr
