/-
  A system call under way: the caller's box, its registers, its table. By an AI agent; no person has read it.
-/
import Derived.Test.YtekncgjkocgioaaGreatDoorFvP34
import Derived.Test.YtekncgjkocgioaaGreatDoorFvP35
set_option linter.unusedVariables false
set_option linter.unusedSimpArgs false
set_option linter.unusedSectionVars false
/-! A system call under way: the caller's box, its registers, its table. -/
namespace Go.Fv.Tr
open Go Go.Fv Go.Fv.Pl Go.Proofs
variable {G:GV}
namespace Sy
variable {l m:List V} {s:St} {p:Pn} {x y z a b c d x' y' z' u v w g:V} {pr:List (List V)} {k:List V} {H H' K:Heap}
theorem MS.frame {P:Nat → Prop} (h:MS H l s x y z u v w g pr) (f:Frame H H' P) (hp:∀ n ∈ lv [x,y,z,u,v,w,g] ++ lr pr,¬ P n):MS H' l s x y z u v w g pr:=by
 have hl:∀ q ∈ [x,y,z,u,v,w,g],∀ n,loc q = some n → ¬ P n:=fun q hq n hn => hp n (List.mem_append_left _ (mem_lv.2 ⟨q,hq,hn⟩))
 exact ⟨h.eq,h.ps.frame f (hl _ (by simp)),h.q.frame f (hl _ (by simp)),h.ts.frame f (hl _ (by simp)),h.up.frame f (hl _ (by simp)),h.sems.frame f (hl _ (by simp)),h.ports.frame f (hl _ (by simp)),h.pages.frame f (hl _ (by simp)),
  h.row.frame f fun n hn => hp n (List.mem_append_right _ hn),h.nd⟩
theorem MS.lt (h:MS H l s x y z u v w g pr) {n:Nat} (hn:n ∈ lv [x,y,z,u,v,w,g] ++ lr pr):n < H.next:=by
 rcases List.mem_append.1 hn with hn | hn
 ·obtain ⟨q,hq,e⟩:=mem_lv.1 hn
  simp only [List.mem_cons,List.not_mem_nil,or_false] at hq
  rcases hq with rfl | rfl | rfl | rfl | rfl | rfl | rfl
  ·exact h.ps.loc_lt e
  ·exact h.q.loc_lt e
  ·exact h.ts.loc_lt e
  ·exact h.up.loc_lt e
  ·exact h.sems.loc_lt e
  ·exact h.ports.loc_lt e
  ·exact h.pages.loc_lt e
 ·exact h.row.lt hn
theorem MS.thaw_in (h:MS H l s x y z u v w g pr) (hb:StB s) (hK:∀ n,n < H.next → K.blk n = H.blk n):∃ l' x' y' z' u' v' w' g' pr',thawV true K (.agg l) = some (.agg l') ∧ StS l' s x' y' z' u' v' w' g' pr':=by
 have f:Frame H ⟨K.blk,H.next,H.floor⟩ (fun _ => False):=⟨Nat.le_refl _,rfl,fun n hn _ => hK n hn⟩
 obtain ⟨l',x',y',z',u',v',w',g',pr',e,hs⟩:=(h.frame f fun _ _ => id).thaw hb
 refine ⟨l',x',y',z',u',v',w',g',pr',?_,hs⟩
 have:(Fv.thaw true K:V → Option V) = Fv.thaw true ⟨K.blk,H.next,H.floor⟩:=funext fun q => mapM_eq (fun _ => rfl) q
 simp only [thawV,this] at e ⊢
 exact e
def setR (s:St) (pc:Int) (k:Nat) (n:Int):St:={ s with t:={ s.t with ps:=setP s.t.ps pc (fun q => { q with regs:=q.regs.set k n }) } }
def regAt (s:St) (pc:Int) (k:Nat):Int:=((at? s.t.ps pc).bind fun q => q.regs[k]?).getD 0
structure ClX (H:Heap) (i:Nat) (p:Pn) (s:St) (pc tk:Int) (rep:V) (ft:Int) (a b c d x y z u v w g:V) (pr:List (List V)):Prop where
 blk:H.blk i = some ⟨21,[[i64 p.id,.bool p.mob,a,b,c,i64 p.ev,d,i64 s.id,i64 s.fr,i64 s.ep,x,y,z,u,v,w,g,i64 pc,i64 tk,rep,i64 ft]]⟩
 lt:i < H.next
 pn:∃ l,PnS l p a b c d
 ms:∃ l,MS H l s x y z u v w g pr
 no:i ∉ lv [x,y,z,u,v,w,g] ++ lr pr
 pc:0 ≤ pc ∧ pc < s.t.ps.length
 sb:StB s
def fp (i:Nat) (x y z u v w g:V) (pr:List (List V)):List Nat:=i :: (lv [x,y,z,u,v,w,g] ++ lr pr)
def Cl (H:Heap) (i:Nat) (p:Pn) (s:St) (pc tk:Int) (rep:V) (ft:Int) (F:List Nat) (H':Heap):Prop :=
 ∃ a b c d x y z u v w g pr,ClX H' i p s pc tk rep ft a b c d x y z u v w g pr ∧ (∀ n ∈ fp i x y z u v w g pr,n ∈ F ∨ H.next ≤ n) ∧ Frame H H' (fun n => n ∈ F)
variable {i:Nat} {pc tk ft:Int} {rep:V}
theorem ClX.frame {P:Nat → Prop} (h:ClX H i p s pc tk rep ft a b c d x y z u v w g pr) (f:Frame H H' P) (hp:∀ n ∈ fp i x y z u v w g pr,¬ P n):ClX H' i p s pc tk rep ft a b c d x y z u v w g pr:=by
 obtain ⟨l,ms⟩:=h.ms
 exact ⟨(f.old i h.lt (hp i (List.mem_cons_self ..))).trans h.blk,Nat.lt_of_lt_of_le h.lt f.next,h.pn,⟨l,ms.frame f fun n hn => hp n (List.mem_cons_of_mem _ hn)⟩,h.no,h.pc,h.sb⟩
theorem ClX.lt_fp (h:ClX H i p s pc tk rep ft a b c d x y z u v w g pr) {n:Nat} (hn:n ∈ fp i x y z u v w g pr):n < H.next:=by
 obtain ⟨l,ms⟩:=h.ms
 rcases List.mem_cons.1 hn with rfl | hn
 ·exact h.lt
 ·exact ms.lt hn
theorem ClX.refl (h:ClX H i p s pc tk rep ft a b c d x y z u v w g pr):Cl H i p s pc tk rep ft (fp i x y z u v w g pr) H:=⟨a,b,c,d,x,y,z,u,v,w,g,pr,h,fun n hn => .inl hn,Frame.refl _ _⟩
theorem Cl.trans {F F':List Nat} {s' s'':St} {H'':Heap} {rep' rep'':V} {ft' ft'':Int} (h:Cl H i p s' pc tk rep' ft' F H') (hF:∀ n ∈ F,n < H.next)
  (h2:∀ {a b c d x y z u v w g pr},ClX H' i p s' pc tk rep' ft' a b c d x y z u v w g pr → Cl H' i p s'' pc tk rep'' ft'' (fp i x y z u v w g pr) H''):Cl H i p s'' pc tk rep'' ft'' F H'':=by
 obtain ⟨a,b,c,d,x,y,z,u,v,w,g,pr,hx,hf,f⟩:=h
 obtain ⟨a2,b2,c2,d2,x2,y2,z2,u2,v2,w2,g2,pr2,hx2,hf2,f2⟩:=h2 hx
 have hn:=f.next
 refine ⟨a2,b2,c2,d2,x2,y2,z2,u2,v2,w2,g2,pr2,hx2,fun n hn' => ?_,⟨Nat.le_trans f.next f2.next,f2.floor.trans f.floor,fun n hn' hne => ?_⟩⟩
 ·rcases hf2 n hn' with h | h
  ·exact hf n h
  ·exact .inr (by omega)
 ·refine (f2.old n (by omega) fun g => ?_).trans (f.old n hn' hne)
  rcases hf n g with h | h
  ·exact hne h
  ·omega
theorem ClX.proc (h:ClX H i p s pc tk rep ft a b c d x y z u v w g pr):∃ lx bk q,loc x = some lx ∧ idxV 21 x (.int .i64 pc) = some (.ptr lx pc.toNat 0) ∧ H.blk lx = some bk ∧ bk.rows[pc.toNat]? = some (prRow q) ∧ pc.toNat < bk.rows.length ∧ at? s.t.ps pc = some q ∧ Wp q ∧ H.floor ≤ lx ∧ lx ≠ i ∧ lx ∈ fp i x y z u v w g pr:=by
 obtain ⟨l,ms⟩:=h.ms
 have hpc:=h.pc
 have hlt:pc.toNat < (s.t.ps.map prRow).length:=by rw [List.length_map]; omega
 obtain ⟨lx,bk,h1,h2,h3,h4,h5⟩:=ms.ps.idx (k:=.i64) hlt
 rw [Int.toNat_of_nonneg hpc.1] at h2
 rw [List.getElem_map] at h4
 have hmem:lx ∈ lv [x,y,z,u,v,w,g] ++ lr pr:=List.mem_append_left _ (mem_lv.2 ⟨x,by simp,h1⟩)
 exact ⟨lx,bk,_,h1,h2,h3,h4,(List.getElem?_eq_some_iff.1 h4).1,by unfold at?; rw [if_pos hpc.1,List.getElem?_eq_getElem (by omega)],h.sb.wp _ (List.getElem_mem _),h5,fun e => h.no (e ▸ hmem),List.mem_cons_of_mem _ hmem⟩
theorem prRow_reg {q:Pr} (hq:Wp q) {n:Nat} (hn:n < 16):(prRow q)[n]? = some (.int .u32 ((q.regs[n]?).getD 0)):=by
 have:n < q.regs.length:=by rw [show q.regs.length = 16 from hq]; exact hn
 unfold prRow
 rw [List.getElem?_append_left (by simpa using this),List.getElem?_map,List.getElem?_eq_getElem this]
 rfl
theorem aidx16 {lx i:Nat} {n:Nat} (hn:n < 16):aidxV 16 1 (.ptr lx i 0) (.int .i64 (n:Nat)) = some (.ptr lx i n):=by
 have h1:(0:Int) ≤ (n:Int) ∧ (n:Int) < ((16:Nat):Int):=by omega
 simp only [aidxV,if_pos h1,padd,Int.toNat_natCast,Nat.mul_one,Nat.zero_add]
set_option maxRecDepth 20000 in
theorem reg_run (nn:Nat) (h:ClX H i p s pc tk rep ft a b c d x y z u v w g pr) {n:Nat} (hn:n < 16) {Q:V → Heap → Prop} (q:Q (.int .u32 (regAt s pc n)) H) :
  Run (callV (cfg G) (sem (cfg G) (nn + 1)) 89 [.ptr i 0 0,.int .i64 (n:Nat)]) H Q:=by
 obtain ⟨lx,bk,qq,h1,h2,h3,h4,h5,h6,h7,h8,h9⟩:=h.proc
 have hb:=h.blk
 rw [callV_inl rfl,ferry_sys_caller_reg_eq]
 simp only [ferry_sys_caller_reg]
 have hr:=prRow_reg h7 hn
 (repeat' (first | (simp only [wp,extractV,w0,reduceIte,Nat.reduceAdd,Nat.reduceLT,Nat.reduceLeDiff,Nat.reduceEqDiff,hb,nil_ptr,h2,aidx16 hn,h3,h4,hr]) | (with_reducible ((first | apply xC | apply xG | apply xQ) <;> intro hb <;> try simp only [hb]))))
 have e:regAt s pc n = (qq.regs[n]?).getD 0:=by
  unfold regAt
  rw [h6]
  rfl
 rw [← e]
 exact q
theorem setP_len (ps:List Pr) (n:Int) (f:Pr → Pr):(setP ps n f).length = ps.length:=by unfold setP; simp
theorem setP_rows {ps:List Pr} {n:Nat} {f:Pr → Pr} (h:n < ps.length):(setP ps (n:Int) f).map prRow = (ps.map prRow).set n (prRow (f ps[n])):=by
 unfold setP
 rw [Int.toNat_natCast]
 refine List.ext_getElem? fun j => ?_
 rw [List.getElem?_map,List.getElem?_modify,List.getElem?_set]
 by_cases hj:n = j
 ·subst hj
  simp [h]
 ·simp [hj]
theorem StB.setR {s:St} (h:StB s) (pc:Int) (k:Nat) (n:Int):StB (setR s pc k n):=by
 refine ⟨fun q hq => ?_,?_,h.up,h.sems,h.ports,h.pages,h.msgs,h.data⟩
 ·unfold Sy.setR setP at hq
  simp only [] at hq
  obtain ⟨j,hj,rfl⟩:=List.mem_iff_getElem.1 hq
  rw [List.getElem_modify]
  have:=h.wp _ (List.getElem_mem (show j < s.t.ps.length by simpa using hj))
  split
  ·unfold Wp at this ⊢
   simpa using this
  ·exact this
 ·unfold Sy.setR
  simp only [setP_len]
  exact h.t
theorem prRow_set {q:Pr} (hq:Wp q) {k:Nat} (hk:k < 16) (n:Int):(prRow q).take k ++ [.int .u32 n] ++ (prRow q).drop (k + 1) = prRow { q with regs:=q.regs.set k n }:=by
 have hl:k < q.regs.length:=by rw [show q.regs.length = 16 from hq]; exact hk
 unfold prRow
 simp only [List.map_set]
 rw [List.take_append_of_le_length (by rw [List.length_map]; omega),List.drop_append_of_le_length (by rw [List.length_map]; omega),List.append_assoc,← List.append_assoc [_],← List.append_assoc (List.take _ _)]
 congr 1
 rw [List.set_eq_take_append_cons_drop]
 simp [hl]
theorem lv_app (A B:List V):lv (A ++ B) = lv A ++ lv B:=List.filterMap_append
theorem nd_ne {A B:List V} {q:V} {n:Nat} {P:List Nat} (h:(lv (A ++ q :: B) ++ P).Nodup) (hq:loc q = some n):(∀ r ∈ A ++ B,∀ k,loc r = some k → k ≠ n) ∧ ∀ k ∈ P,k ≠ n:=by
 rw [lv_app,lv_cons,hq] at h
 simp only [Option.toList_some,List.singleton_append,List.append_assoc,List.nodup_append,List.cons_append,List.nodup_cons,List.mem_append,List.mem_cons,not_or] at h
 obtain ⟨_,⟨⟨n1,n2⟩,_⟩,h2⟩:=h
 refine ⟨fun r hr k hk e => ?_,fun k hk e => n2.2 (e ▸ hk)⟩
 subst e
 rcases List.mem_append.1 hr with hr | hr
 ·exact h2 k (mem_lv.2 ⟨r,hr,hk⟩) k (.inl rfl) rfl
 ·exact n2.1 (mem_lv.2 ⟨r,hr,hk⟩)
set_option maxRecDepth 20000 in
theorem ClX.store (h:ClX H i p s pc tk rep ft a b c d x y z u v w g pr) (hf:H.floor = 0) {k:Nat} (hk:k < 16) (n:Int):∃ lx bk row,idxV 21 x (.int .i64 pc) = some (.ptr lx pc.toNat 0) ∧ H.blk lx = some bk ∧ bk.rows[pc.toNat]? = some row ∧ H.floor ≤ lx ∧ lx ≠ i ∧ k + 1 ≤ row.length ∧
  Cl H i p (setR s pc k n) pc tk rep ft (fp i x y z u v w g pr) (H.set lx ⟨bk.sz,bk.rows.set pc.toNat (row.take k ++ [.int .u32 n] ++ row.drop (k + 1))⟩):=by
 obtain ⟨lx,bk,q,h1,h2,h3,h4,h5,h6,h7,h8,h9,h10⟩:=h.proc
 refine ⟨lx,bk,prRow q,h2,h3,h4,h8,h9,by rw [pr_len h7]; omega,a,b,c,d,x,y,z,u,v,w,g,pr,⟨?_,h.lt,h.pn,?_,h.no,?_,h.sb.setR _ _ _⟩,fun n hn => .inl hn,Frame.set _ _ h10⟩
 ·rw [Heap.set_blk,if_neg (Ne.symm h9)]
  exact h.blk
 ·obtain ⟨l,ms⟩:=h.ms
  have hpc:=h.pc
  have hlt:pc.toNat < s.t.ps.length:=by omega
  have eq:s.t.ps[pc.toNat] = q:=by
   unfold at? at h6
   rw [if_pos hpc.1,List.getElem?_eq_getElem hlt] at h6
   exact Option.some.inj h6
  have er:(setR s pc k n).t.ps.map prRow = (s.t.ps.map prRow).set pc.toNat ((prRow q).take k ++ [.int .u32 n] ++ (prRow q).drop (k + 1)):=by
   rw [prRow_set h7 hk,← eq]
   have:=setP_rows (f:=fun q => { q with regs:=q.regs.set k n }) hlt
   rw [Int.toNat_of_nonneg hpc.1] at this
   exact this
  obtain ⟨d1,d2⟩:=nd_ne (A:=[]) (B:=[y,z,u,v,w,g]) ms.nd h1
  have f:Frame H (H.set lx ⟨bk.sz,bk.rows.set pc.toNat ((prRow q).take k ++ [.int .u32 n] ++ (prRow q).drop (k + 1))⟩) (fun m => m = lx):=Frame.set _ _ rfl
  refine ⟨_,rfl,?_,ms.q.frame f (d1 _ (by simp)),ms.ts.frame f (d1 _ (by simp)),ms.up.frame f (d1 _ (by simp)),ms.sems.frame f (d1 _ (by simp)),ms.ports.frame f (d1 _ (by simp)),ms.pages.frame f (d1 _ (by simp)),ms.row.frame f d2,ms.nd⟩
  rw [er]
  exact ms.ps.put h1 h3 _
 ·unfold Sy.setR
  simp only [setP_len]
  exact h.pc
set_option maxRecDepth 20000 in
theorem answer_run (nn:Nat) (h:ClX H i p s pc tk rep ft a b c d x y z u v w g pr) (hf:H.floor = 0) (n:Int) :
  Run (callV (cfg G) (sem (cfg G) (nn + 1)) 82 [.ptr i 0 0,.int .u32 n]) H fun r H' => r = .tuple [] ∧ Cl H i p (setR s pc 1 n) pc tk rep ft (fp i x y z u v w g pr) H':=by
 obtain ⟨lx,bk,row,h1,h2,h3,h4,h5,h6,h7⟩:=h.store hf (k:=1) (by decide) n
 have hb:=h.blk
 have ha:aidxV 16 1 (.ptr lx pc.toNat 0) (.int .i64 1) = some (.ptr lx pc.toNat 1):=aidx16 (n:=1) (by decide)
 rw [callV_inl rfl,ferry_sys_caller_answer_eq]
 simp only [ferry_sys_caller_answer]
 have h6':2 ≤ row.length:=h6
 (repeat' (first | (simp only [wp,extractV,w0,reduceIte,Nat.reduceAdd,Nat.reduceLT,Nat.reduceLeDiff,Nat.reduceEqDiff,hb,nil_ptr,h1,ha,h2,h3,h4,h6']) | (with_reducible ((first | apply xC | apply xG | apply xQ) <;> intro hb <;> try simp only [hb]))))
 exact h7
theorem conv_u64 {n:Int} (h0:0 ≤ n) (h:n < 18446744073709551616) {k:IntKind}:convI .u64 (.int k n) = some (.int .u64 n):=by
 have:IntKind.u64.wrap n = n:=Go.IntWalk.u64_in _ ⟨h0,by omega⟩
 simp [convI,this]
theorem conv_i64 {n:Int} (h0:-9223372036854775808 ≤ n) (h:n ≤ 9223372036854775807) {k:IntKind}:convI .i64 (.int k n) = some (.int .i64 n):=by
 have:IntKind.i64.wrap n = n:=Go.IntWalk.i64_in _ ⟨h0,h⟩
 simp [convI,this]
def RegOk (n:Int):Prop:=0 ≤ n ∧ n < 4294967296
set_option maxRecDepth 20000 in
theorem index_run (nn:Nat) (h:ClX H i p s pc tk rep ft a b c d x y z u v w g pr) (hf:H.floor = 0) (hr:RegOk (regAt s pc 1)) {N:Int} (hN:0 ≤ N ∧ N ≤ 9223372036854775807) {Q:V → Heap → Prop}
  (q1:regAt s pc 1 < N → Q (.tuple [i64 (regAt s pc 1),.bool true]) H) (q2:N ≤ regAt s pc 1 → ∀ H',Cl H i p (setR s pc 1 4294967295) pc tk rep ft (fp i x y z u v w g pr) H' → Q (.tuple [i64 0,.bool false]) H') :
  Run (callV (cfg G) (sem (cfg G) (nn + 2)) 87 [.ptr i 0 0,i64 N]) H Q:=by
 rw [callV_inl rfl,ferry_sys_caller_index_eq]
 simp only [ferry_sys_caller_index]
 obtain ⟨r0,r1⟩:=hr
 (repeat' (first | (simp only [wp,extractV,w0,reduceIte,Nat.reduceAdd,Nat.reduceLT,Nat.reduceLeDiff,Nat.reduceEqDiff]) | (with_reducible ((first | apply xC | apply xG | apply xQ) <;> intro hb <;> try simp only [hb]))))
 refine reg_run (nn) h (n:=1) (by decide) ?_
 by_cases hc:regAt s pc 1 < N
 ·(repeat' (first | (simp only [wp,extractV,w0,reduceIte,Nat.reduceAdd,Nat.reduceLT,Nat.reduceLeDiff,Nat.reduceEqDiff,conv_u64 r0 (show regAt s pc 1 < 18446744073709551616 by omega),conv_u64 hN.1 (show N < 18446744073709551616 by omega),conv_i64 (show -9223372036854775808 ≤ regAt s pc 1 by omega) (show regAt s pc 1 ≤ 9223372036854775807 by omega),decide_eq_true hc]) | (with_reducible ((first | apply xC | apply xG | apply xQ) <;> intro hb <;> try simp only [hb]))))
  exact q1 hc
 ·(repeat' (first | (simp only [wp,extractV,w0,reduceIte,Nat.reduceAdd,Nat.reduceLT,Nat.reduceLeDiff,Nat.reduceEqDiff,conv_u64 r0 (show regAt s pc 1 < 18446744073709551616 by omega),conv_u64 hN.1 (show N < 18446744073709551616 by omega),decide_eq_false hc]) | (with_reducible ((first | apply xC | apply xG | apply xQ) <;> intro hb <;> try simp only [hb]))))
  refine (answer_run nn h hf _).mono fun r H' e => ?_
  (repeat' (first | (simp only [wp,extractV,w0,reduceIte,Nat.reduceAdd,Nat.reduceLT,Nat.reduceLeDiff,Nat.reduceEqDiff]) | (with_reducible ((first | apply xC | apply xG | apply xQ) <;> intro hb <;> try simp only [hb]))))
  exact q2 (by omega) H' e.2
def timeOk (n:Int):Prop:=n ≤ 1000000 ∨ n = 4294967295
instance (n:Int):Decidable (timeOk n):=inferInstanceAs (Decidable (_ ∨ _))
end Sy
end Go.Fv.Tr
namespace Go.Fv.Tr
open Go Go.Fv Go.Fv.Pl Go.Proofs
variable {G:GV}
namespace Sy
variable {x:V} {ps:List Pa} {rt bad:Int}
def andI (a b:Int):Int:=IntKind.i64.wrap (BitVec.ofInt 64 a &&& BitVec.ofInt 64 b).toNat
theorem arith_and (a b:Int):arithV .and (i64 a) (i64 b) = some (i64 (andI a b)):=rfl
theorem wrap_u64 {n:Int} (h0:0 ≤ n) (h:n < 18446744073709551616):IntKind.u64.wrap n = n:=Go.IntWalk.u64_in _ ⟨h0,by omega⟩
theorem u64_quo {a:Nat} (h:a < 18446744073709551616):arithV .quo (.int .u64 (a:Nat)) (.int .u64 64) = some (.int .u64 ((a / 64:Nat):Int)):=by
 have e:((a:Nat):Int).tdiv 64 = ((a / 64:Nat):Int):=by rw [Int.tdiv_eq_ediv_of_nonneg (by omega)]; rfl
 have w:=wrap_u64 (n:=((a / 64:Nat):Int)) (by omega) (by omega)
 simp only [arithV,e,w]
 rfl
theorem u64_add {a b:Nat} (h:a + b < 18446744073709551616):arithV .add (.int .u64 (a:Nat)) (.int .u64 (b:Nat)) = some (.int .u64 ((a + b:Nat):Int)):=by
 have w:=wrap_u64 (n:=((a + b:Nat):Int)) (by omega) (by omega)
 simp only [arithV,if_true,← Int.natCast_add,w]
theorem u64_mul {a b:Nat} (h:a * b < 18446744073709551616):arithV .mul (.int .u64 (a:Nat)) (.int .u64 (b:Nat)) = some (.int .u64 ((a * b:Nat):Int)):=by
 have w:=wrap_u64 (n:=((a * b:Nat):Int)) (by omega) (by omega)
 simp only [arithV,if_true,← Int.natCast_mul,w]
def faultAt (ps:List Pa) (rt bad:Int) (a:Nat):Int:=match ps[a / 64]? with
 | none => 3
 | some p => if andI p.r rt = 0 then bad else 0
theorem fault_spec (n:Nat) (hx:Sls x 66 (ps.map paR)) (hl:ps.length ≤ big) {a:Nat} (ha:a < 18446744073709551616):callV (cfg G) (sem (cfg G) (n + 1)) 61 [x,.int .u64 (a:Nat),i64 rt,i64 bad] = M.ret (i64 (faultAt ps rt bad a)):=by
 refine callV_pure0 rfl (by simp only [List.all_cons,hx.closedV,List.all_nil]; rfl) rfl ?_
 rw [ferry_page_fault_eq]
 simp only [ferry_page_fault]
 have hlen:=hx.len
 rw [List.length_map] at hlen
 have hcl:convI .u64 (i64 (ps.length:Nat)) = some (.int .u64 (ps.length:Nat)):=conv_u64 (by omega) (by unfold big at hl; omega)
 unfold faultAt
 by_cases h:a / 64 < ps.length
 ·have hi:=hx.idx (k:=.u64) (i:=a / 64) (by rw [List.length_map]; exact h)
  rw [List.getElem_map] at hi
  have d1:decide (((ps.length:Nat):Int) ≤ ((a / 64:Nat):Int)) = false:=by rw [decide_eq_false_iff_not]; omega
  rw [List.getElem?_eq_getElem h]
  generalize ps[a / 64] = p at *
  dsimp only
  by_cases h0:andI p.r rt = 0
  ·have e:(andI p.r rt == 0) = true:=by simpa using h0
   rw [if_pos h0]
   (repeat' (first | (simp only [wp,extractV,w0,reduceIte,Nat.reduceAdd,Nat.reduceLT,Nat.reduceLeDiff,Nat.reduceEqDiff,u64_quo ha,hlen,hcl,d1,hi,paR,arith_and,e]) | (with_reducible ((first | apply xC | apply xG | apply xQ) <;> intro hb <;> try simp only [hb]))))
  ·have e:(andI p.r rt == 0) = false:=by simpa using h0
   rw [if_neg h0]
   (repeat' (first | (simp only [wp,extractV,w0,reduceIte,Nat.reduceAdd,Nat.reduceLT,Nat.reduceLeDiff,Nat.reduceEqDiff,u64_quo ha,hlen,hcl,d1,hi,paR,arith_and,e]) | (with_reducible ((first | apply xC | apply xG | apply xQ) <;> intro hb <;> try simp only [hb]))))
 ·have d1:decide (((ps.length:Nat):Int) ≤ ((a / 64:Nat):Int)) = true:=by rw [decide_eq_true_eq]; omega
  rw [List.getElem?_eq_none (by omega)]
  (repeat' (first | (simp only [wp,extractV,w0,reduceIte,Nat.reduceAdd,Nat.reduceLT,Nat.reduceLeDiff,Nat.reduceEqDiff,u64_quo ha,hlen,hcl,d1]) | (with_reducible ((first | apply xC | apply xG | apply xQ) <;> intro hb <;> try simp only [hb]))))
def spanB (ps:List Pa) (rt bad:Int) (a n:Nat):Int:=(((List.range n).map fun i => faultAt ps rt bad (a + i)).find? fun f => f != 0).getD 0
theorem spanB_none {a n:Nat} (h:∀ j,j < n → faultAt ps rt bad (a + j) = 0):spanB ps rt bad a n = 0:=by
 unfold spanB
 rw [List.find?_eq_none.2]
 ·rfl
 ·intro f hf
  obtain ⟨j,hj,rfl⟩:=List.mem_map.1 hf
  rw [h j (List.mem_range.1 hj)]
  decide
theorem spanB_zero {a n : Nat} (h : spanB ps rt bad a n = 0) : ∀ j, j < n → faultAt ps rt bad (a + j) = 0 := by
  intro j hj
  unfold spanB at h
  cases e:((List.range n).map fun i => faultAt ps rt bad (a + i)).find? fun f => f != 0 with
  | none =>
    have:=List.find?_eq_none.1 e _ (List.mem_map.2 ⟨j,List.mem_range.2 hj,rfl⟩)
    simpa using this
  | some f =>
    rw [e] at h
    have:=List.find?_some e
    have h:f = 0:=h
    subst h
    simp at this
theorem spanB_first {a n k:Nat} (h:∀ j,j < k → faultAt ps rt bad (a + j) = 0) (hk:k < n) (h1:faultAt ps rt bad (a + k) ≠ 0):spanB ps rt bad a n = faultAt ps rt bad (a + k):=by
 have e:n = k + (1 + (n - k - 1)):=by omega
 unfold spanB
 rw [e,List.range_add,List.map_append,List.find?_append]
 have e1:((List.range k).map fun i => faultAt ps rt bad (a + i)).find? (fun f => f != 0) = none:=List.find?_eq_none.2 fun f hf => by
  obtain ⟨j,hj,rfl⟩:=List.mem_map.1 hf
  rw [h j (List.mem_range.1 hj)]
  decide
 rw [e1,List.range_add]
 have h2:(faultAt ps rt bad (a + k) != 0) = true:=by simpa using h1
 simp [h2]
set_option maxRecDepth 20000 in
theorem span_spec (n:Nat) (hx:Sls x 66 (ps.map paR)) (hl:ps.length ≤ big) {a m:Nat} (ha:a < 4294967296) (hm:m ≤ big):callV (cfg G) (sem (cfg G) (n + 2)) 28 [x,.int .u32 (a:Nat),i64 (m:Nat),i64 rt,i64 bad] = M.ret (i64 (spanB ps rt bad a m)):=by
 refine callV_pure0 rfl (by simp only [List.all_cons,hx.closedV,List.all_nil]; rfl) rfl ?_
 rw [ferry_page_span_eq]
 simp only [ferry_page_span]
 unfold big at hm
 have c1:convI .u64 (.int .u32 (a:Nat)) = some (.int .u64 (a:Nat)):=conv_u64 (by omega) (by omega)
 have c2:convI .u64 (i64 (m:Nat)) = some (.int .u64 (m:Nat)):=conv_u64 (by omega) (by omega)
 (repeat' (first | (simp only [wp,extractV,w0,reduceIte,Nat.reduceAdd,Nat.reduceLT,Nat.reduceLeDiff,Nat.reduceEqDiff,c1,c2,u64_add (show a + m < 18446744073709551616 by omega)]) | (with_reducible ((first | apply xC | apply xG | apply xQ) <;> intro hb <;> try simp only [hb]))))
 refine Run.loop (N:=m) (fun i r H => ∃ fr:Nat,r = [i64 0,.int .u64 (fr:Nat)] ∧ a ≤ fr ∧ i ≤ fr - a ∧ fr ≤ a + m + 64 ∧ ∀ j,a + j < fr → faultAt ps rt bad (a + j) = 0) ⟨a,rfl,Nat.le_refl _,Nat.zero_le _,by omega,fun j h => by omega⟩ ?_
 rintro i r H hi ⟨fr,rfl,h1,h2,h3,h4⟩
 simp only [ferry_page_span_l1]
 have hfs:=fault_spec (G:=G) n (rt:=rt) (bad:=bad) hx hl (a:=fr) (by omega)
 by_cases hlt:fr < a + m
 ·have d1:decide (((fr:Nat):Int) < ((a + m:Nat):Int)) = true:=by rw [decide_eq_true_eq]; omega
  have er:a + (fr - a) = fr:=by omega
  by_cases h0:faultAt ps rt bad fr = 0
  ·have e:(faultAt ps rt bad fr == 0) = true:=by simpa using h0
   have u1:=u64_quo (a:=fr) (by omega)
   have u2:arithV .add (.int .u64 ((fr / 64:Nat):Int)) (.int .u64 1) = some (.int .u64 ((fr / 64 + 1:Nat):Int)):=u64_add (b:=1) (by omega)
   have u3:arithV .mul (.int .u64 ((fr / 64 + 1:Nat):Int)) (.int .u64 64) = some (.int .u64 (((fr / 64 + 1) * 64:Nat):Int)):=u64_mul (b:=64) (by omega)
   (repeat' (first | (simp only [wp,extractV,w0,reduceIte,Nat.reduceAdd,Nat.reduceLT,Nat.reduceLeDiff,Nat.reduceEqDiff,d1,hfs,e,u1,u2,u3]) | (with_reducible ((first | apply xC | apply xG | apply xQ) <;> intro hb <;> try simp only [hb]))))
   refine ⟨by omega,(fr / 64 + 1) * 64,rfl,by omega,by omega,by omega,fun j hj => ?_⟩
   by_cases hjf:a + j < fr
   ·exact h4 j hjf
   ·have:(a + j) / 64 = fr / 64:=by omega
    unfold faultAt at h0 ⊢
    rw [this]
    exact h0
  ·have e:(faultAt ps rt bad fr == 0) = false:=by simpa using h0
   (repeat' (first | (simp only [wp,extractV,w0,reduceIte,Nat.reduceAdd,Nat.reduceLT,Nat.reduceLeDiff,Nat.reduceEqDiff,d1,hfs,e]) | (with_reducible ((first | apply xC | apply xG | apply xQ) <;> intro hb <;> try simp only [hb]))))
   have:=spanB_first (ps:=ps) (rt:=rt) (bad:=bad) (a:=a) (n:=m) (k:=fr - a) (fun j hj => h4 j (by omega)) (by omega) (by rw [er]; exact h0)
   rw [this,er]
 ·have d1:decide (((fr:Nat):Int) < ((a + m:Nat):Int)) = false:=by rw [decide_eq_false_iff_not]; omega
  (repeat' (first | (simp only [wp,extractV,w0,reduceIte,Nat.reduceAdd,Nat.reduceLT,Nat.reduceLeDiff,Nat.reduceEqDiff,d1]) | (with_reducible ((first | apply xC | apply xG | apply xQ) <;> intro hb <;> try simp only [hb]))))
  rw [spanB_none fun j hj => h4 j (by omega)]
end Sy
end Go.Fv.Tr
