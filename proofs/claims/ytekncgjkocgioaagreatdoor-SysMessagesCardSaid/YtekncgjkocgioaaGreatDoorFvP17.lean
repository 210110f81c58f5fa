/-
  Guarded operations: what they look at, and what they see. By an AI agent; no person has read it.
-/
import Derived.Test.YtekncgjkocgioaaGreatDoorFvP16
set_option linter.unusedVariables false
set_option linter.unusedSimpArgs false
set_option linter.unusedSectionVars false
/-! Guarded operations: what they look at, and what they see. -/
namespace Go.Fv
open Go
section
variable {C:Cfg} {call:FuncId → List V → M V} {ops:Array Oper}
theorem local_guarded {env : Env} {o : Oper} {H H' H2 : Heap} {v : V} (hq : isQ o.op = false) (hok : okOp o.op = true) (hm : memConv C.P o.op = false) (h : guarded C call ops env o H = some (v, H')) (hn : H2.next = H.next) (hf : isS o.op = true → H2.floor = H.floor)
    (hb:∀ l i f,(isL o.op = true ∨ isS o.op = true) → ptrOf C env o.op = .ptr l i f → H2.blk l = H.blk l) (hbnd:∀ l B,H.blk l = some B → l < H.next) :
    ∃ H2',guarded C call ops env o H2 = some (v,H2') ∧ Local (isS o.op) (ptrOf C env o.op) H H' H2 H2':=by
  have run : stepV C call (ev C env) o.op H = some (v, H') → ∃ H2', stepV C call (ev C env) o.op H2 = some (v, H2') ∧ Local (isS o.op) (ptrOf C env o.op) H H' H2 H2' := fun h =>
    local_step hq hok hm h hn hf (fun t x he => by rw [he]; rfl) (fun t x y he => by rw [he]; rfl) hb hbnd
  unfold guarded at h ⊢
  cases hg:o.guard with
  | none =>
    rw [hg] at h
    exact run h
  | some g =>
    obtain ⟨j,want⟩:=g
    rw [hg] at h
    simp only at h ⊢
    cases hd:(ops[j]?).bind (·.dst) with
    | none => rw [hd] at h; cases h
    | some d =>
      rw [hd] at h
      simp only at h ⊢
      generalize env d = p at h ⊢
      cases p with
      | bool b =>
        simp only [guardV] at h ⊢
        by_cases e:b = want
        · rw [if_pos e] at h ⊢
          exact run h
        · rw [if_neg e] at h ⊢
          simp only [M.ret,Option.some.injEq,Prod.mk.injEq] at h
          obtain ⟨rfl,rfl⟩:=h
          have hb':isS o.op = true → ∀ l i f,ptrOf C env o.op = .ptr l i f → H2.blk l = H.blk l:=fun hs l i f he => hb l i f (.inr hs) he
          refine ⟨H2,rfl,rfl,hn,Nat.le_refl _,fun l _ h => absurd rfl h,fun l i f _ _ => .inr ⟨rfl,rfl⟩,fun l _ h => h,fun l i f hs h => hb' hs l i f h,fun l h1 h2 => by omega,fun l _ => rfl,fun _ => rfl⟩
      | tuple l0 =>
        simp only [guardV] at h ⊢
        simp only [M.ret,Option.some.injEq,Prod.mk.injEq] at h
        obtain ⟨rfl,rfl⟩:=h
        have hb':isS o.op = true → ∀ l i f,ptrOf C env o.op = .ptr l i f → H2.blk l = H.blk l:=fun hs l i f he => hb l i f (.inr hs) he
        refine ⟨H2,rfl,rfl,hn,Nat.le_refl _,fun l _ h => absurd rfl h,fun l i f _ _ => .inr ⟨rfl,rfl⟩,fun l _ h => h,fun l i f hs h => hb' hs l i f h,fun l h1 h2 => by omega,fun l _ => rfl,fun _ => rfl⟩
      | _ => cases h
theorem mem_tmpsOf {xs:Array Operand} {t:Nat}:t ∈ tmpsOf xs ↔ Operand.tmp t ∈ xs.toList:=by
 unfold tmpsOf
 rw [List.mem_filterMap]
 constructor
 ·rintro ⟨x,hx,h⟩
  cases x <;> simp at h
  subst h; exact hx
 ·intro h; exact ⟨_,h,rfl⟩
theorem stepV_congr {e e' : Operand → V} (o : Op) (h : ∀ x, x ∈ o.operands.toList → e x = e' x) : stepV C call e o = stepV C call e' o := by
  cases o
  case call c =>
    obtain ⟨callee,args,ats⟩:=c
    cases callee with
    | invoke r n => rfl
    | builtin b =>
      show builtinV C b ats (args.toList.map e) = builtinV C b ats (args.toList.map e')
      rw [List.map_congr_left (fun x hx => h x (by simp [Op.operands,Call.operands]; simpa using hx))]
    | value f =>
      show callFn C call (e f) (args.toList.map e) = callFn C call (e' f) (args.toList.map e')
      rw [List.map_congr_left (fun x hx => h x (by simp [Op.operands,Call.operands]; exact .inr (by simpa using hx))),h f (by simp [Op.operands,Call.operands])]
  case build t parts =>
    have hm:∀ p ∈ parts.toList,e p.2 = e' p.2:=fun p hp => h p.2 (by simp only [Op.operands]; simp; exact ⟨p.1,by simpa using hp⟩)
    simp only [stepV,opV]
    have h1 : ∀ (F : Nat × Operand → V → Option (Nat × Nat × V)), (parts.toList.mapM fun p => F p (e p.2)) = parts.toList.mapM fun p => F p (e' p.2) := fun F => by
      have : ∀ l : List (Nat × Operand), (∀ p ∈ l, e p.2 = e' p.2) → (l.mapM fun p => F p (e p.2)) = l.mapM fun p => F p (e' p.2) := by
        intro l
        induction l with
        | nil => intro _; rfl
        | cons p l ih => intro hl; rw [List.mapM_cons,List.mapM_cons,hl p (List.mem_cons_self ..),ih fun q hq => hl q (List.mem_cons_of_mem _ hq)]
      exact this _ hm
    have h2:∀ (F:Nat × Operand → V → Nat × Nat × V),(parts.toList.map fun p => F p (e p.2)) = parts.toList.map fun p => F p (e' p.2):=fun F => List.map_congr_left fun p hp => by rw [hm p hp]
    split
    · rename_i fs z _ _
      rw [h1 fun p x => (fs[p.1]?).map fun f => (f.offset,C.P.cellsOf f.type,x)]
    · rename_i len el z _ _
      rw [h2 fun p x => (p.1 * C.P.cellsOf el,C.P.cellsOf el,x)]
    · rfl
  case buildSlice t n parts =>
    have hm:∀ p ∈ parts.toList,e p.2 = e' p.2:=fun p hp => h p.2 (by simp only [Op.operands]; simp; exact ⟨p.1,by simpa using hp⟩)
    simp only [stepV,opV]
    rw [List.map_congr_left (g:=fun p => (p.1,e' p.2)) fun p hp => by rw [hm p hp]]
  case makeFunc fn first caps =>
    cases fn <;> simp only [stepV,opV]
    have h1:=List.map_congr_left (l:=caps.toList) (fun x hx => h x (by simp [Op.operands]; exact .inr (by simpa using hx)))
    have h2:=List.map_congr_left (l:=first.toList) (fun x hx => h x (by simp [Op.operands]; exact .inl (by simpa using hx)))
    rw [h1,h2]
  case slice t x lo hi mx =>
    simp only [stepV,opV]
    have hx:=h x (by simp [Op.operands])
    have ho:∀ o:Option Operand,(∀ y,o = some y → e y = e' y) → o.map e = o.map e':=fun o ho => by cases o with | none => rfl | some y => simp [ho y rfl]
    rw [hx,ho lo fun y hy => h y (by simp [Op.operands,hy]),ho hi fun y hy => h y (by simp [Op.operands,hy]),ho mx fun y hy => h y (by simp [Op.operands,hy])]
  case makeMap t r => cases r <;> rfl
  all_goals first
    | rfl
    | (simp only [stepV, opV]
       simp only [Op.operands] at h
       first
         | (rw [h _ (List.mem_cons_self ..),h _ (List.mem_cons_of_mem _ (List.mem_cons_self ..)),h _ (List.mem_cons_of_mem _ (List.mem_cons_of_mem _ (List.mem_cons_self ..)))]; done)
         | (rw [h _ (List.mem_cons_self ..),h _ (List.mem_cons_of_mem _ (List.mem_cons_self ..))]; done)
         | rw [h _ (List.mem_cons_self ..)])
def mask (l:List Nat) (env:Env):Env:=fun t => if l.contains t then env t else .undef
theorem ev_mask {l:List Nat} {env:Env} {x:Operand} (h:∀ t,x = .tmp t → t ∈ l):ev C env x = ev C (mask l env) x:=by
 cases x with
 | tmp t => simp only [ev,mask]; rw [if_pos (by simpa using h t rfl)]
 | _ => rfl
theorem touches_op {o:Oper} {t:Nat} (h:Operand.tmp t ∈ o.op.operands.toList):t ∈ touches ops o:=by
 unfold touches
 exact List.mem_append_left _ (List.mem_append_right _ (mem_tmpsOf.2 h))
theorem guarded_mask (env : Env) (o : Oper) : guarded C call ops env o = guarded C call ops (mask (touches ops o) env) o := by
  have hs : stepV C call (ev C env) o.op = stepV C call (ev C (mask (touches ops o) env)) o.op :=
    stepV_congr o.op fun x hx => ev_mask fun t ht => touches_op (by rw [← ht]; exact hx)
  unfold guarded
  cases hg:o.guard with
  | none => exact hs
  | some g =>
    obtain ⟨j,want⟩:=g
    simp only
    cases hd:(ops[j]?).bind (·.dst) with
    | none => rfl
    | some d =>
      simp only
      have : mask (touches ops o) env d = env d := by
        unfold mask
        rw [if_pos]
        simp only [List.contains_eq_mem,decide_eq_true_eq]
        unfold touches
        rw [hg]
        refine List.mem_append_right _ ?_
        simp only
        rw [hd]
        simp
      rw [this,hs]
theorem ptrOf_mask (env:Env) (o:Oper):ptrOf C (mask (touches ops o) env) o.op = ptrOf C env o.op:=by
 cases ho:o.op <;> try rfl
 ·exact (ev_mask fun t ht => touches_op (by rw [ho,ht]; simp [Op.operands])).symm
 ·exact (ev_mask fun t ht => touches_op (by rw [ho,ht]; simp [Op.operands])).symm
end
end Go.Fv
namespace Go.Fv
open Go
section
variable {C:Cfg} {σ:Nat → Addr} {call:FuncId → List V → M V} {ops:Array Oper} {n0:Nat} {hs:Nat → Heap} {es:Nat → Env} {vs:Nat → V} {bs:Nat → List (Nat × Nat × Nat × V)}
def Tr (C:Cfg) (call:CV) (ops:Array Oper) (n0:Nat) (hs:Nat → Heap) (es:Nat → Env) (vs:Nat → V) (bs:Nat → List (Nat × Nat × Nat × V)) (i n:Nat):Prop :=
 ∀ j,i ≤ j → j < n → ∃ o,ops[j]? = some o ∧ ((conf ops j).all fun k => apartV (ptrAt (bs j) k) (ptrOf C (es j) o.op)) = true ∧
  stepD C call ops n0 j (bs j) (es j) o (hs j) = some (vs j,hs (j + 1)) ∧ es (j + 1) = put (es j) o.dst (vs j) ∧ bs (j + 1) = (j,(hs j).next,(hs (j + 1)).next,ptrOf C (es j) o.op) :: bs j
theorem runDrawn_cons (o : Oper) (l : List Oper) (i : Nat) (b : List (Nat × Nat × Nat × V)) (env : Env) (Kc : Env → M R) (h : Heap) : runDrawn C call ops n0 (o :: l) i b env Kc h =
    if (conf ops i).all fun k => apartV (ptrAt b k) (ptrOf C env o.op) then
        (stepD C call ops n0 i b env o h).bind fun x => runDrawn C call ops n0 l (i + 1) ((i,h.next,x.2.next,ptrOf C env o.op) :: b) (put env o.dst x.1) Kc x.2
      else none:=rfl
theorem trace_of {Kc : Env → M R} {r : R × Heap} : ∀ (l : List Oper) (i : Nat) (b0 : List (Nat × Nat × Nat × V)) (env : Env) (h : Heap), l = ops.toList.drop i → runDrawn C call ops n0 l i b0 env Kc h = some r →
    ∃ hs es vs bs,hs i = h ∧ es i = env ∧ bs i = b0 ∧ Tr C call ops n0 hs es vs bs i (i + l.length) ∧ Kc (es (i + l.length)) (hs (i + l.length)) = some r
  | [],i,b0,env,h,_,hr => ⟨fun _ => h,fun _ => env,fun _ => .undef,fun _ => b0,rfl,rfl,rfl,fun j h1 h2 => by simp at h2; omega,hr⟩
  | o :: l, i, b0, env, h, hl, hr => by
    have ho : ops[i]? = some o := by
      rw [← Array.getElem?_toList,← Nat.add_zero i,← List.getElem?_drop,← hl]; rfl
    have hl':l = ops.toList.drop (i + 1):=by rw [← List.drop_drop,← hl]; rfl
    rw [runDrawn_cons] at hr
    split at hr
    case isFalse => cases hr
    rename_i hc
    cases hst:stepD C call ops n0 i b0 env o h with
    | none => rw [hst] at hr; cases hr
    | some x =>
      rw [hst] at hr
      simp only [Option.bind_some] at hr
      obtain ⟨hs,es,vs,bs,q1,q2,q3,q4,q5⟩:=trace_of l (i + 1) _ _ _ hl' hr
      have e:i + 1 + l.length = i + (o :: l).length:=by simp; omega
      rw [e] at q4 q5
      have ne:i + (o :: l).length ≠ i:=by simp
      refine ⟨fun k => if k = i then h else hs k,fun k => if k = i then env else es k,fun k => if k = i then x.1 else vs k,fun k => if k = i then b0 else bs k,by simp,by simp,by simp,fun j h1 h2 => ?_,by simp only [if_neg ne]; exact q5⟩
      by_cases hj:j = i
      · subst hj
        refine ⟨o,ho,?_,?_,?_,?_⟩
        · simp only [if_true]; exact hc
        · simp only [if_true,if_neg (Nat.succ_ne_self j)]; rw [hst,q1]
        · simp only [if_true,if_neg (Nat.succ_ne_self j)]; exact q2
        · simp only [if_true,if_neg (Nat.succ_ne_self j)]; rw [q3,q1]
      · obtain ⟨o',p1,p2,p3,p4,p5⟩:=q4 j (by omega) h2
        have nj:j + 1 ≠ i:=by omega
        exact ⟨o',p1,by simp only [if_neg hj]; exact p2,by simp only [if_neg hj,if_neg nj]; exact p3,by simp only [if_neg hj,if_neg nj]; exact p4,by simp only [if_neg hj,if_neg nj]; exact p5⟩

def upto (ops:Array Oper) (j i:Nat):Prop:=i = j ∨ bef ops j i = true
def wr (ops:Array Oper) (t i:Nat):Prop:=∃ o,ops[i]? = some o ∧ o.dst = some t
def born (hs:Nat → Heap) (l i:Nat):Prop:=(hs i).next ≤ l ∧ l < (hs (i + 1)).next
def visP (ops:Array Oper) (hs:Nat → Heap) (i l:Nat):Prop:=l < (hs 0).next ∨ ∃ k,bef ops i k = true ∧ k < i ∧ born hs l k
def hitS (C:Cfg) (ops:Array Oper) (hs:Nat → Heap) (es:Nat → Env) (l i:Nat):Prop:=(∃ o,ops[i]? = some o ∧ isS o.op = true ∧ ∃ a f,ptrOf C (es i) o.op = .ptr l a f) ∨
 (isT C ops i = true ∧ (hs 0).floor ≤ l ∧ visP ops hs i l ∧ ∃ B,(hs i).blk l = some B)
def hit (C:Cfg) (ops:Array Oper) (hs:Nat → Heap) (es:Nat → Env) (l i:Nat):Prop:=i < ops.size ∧ (born hs l i ∨ hitS C ops hs es l i)
def dset (K0:Ctx) (n:Nat) (hs:Nat → Heap) (A:Nat → Prop) (l:Nat):Prop:=K0.D l ∨ ∃ i,i < n ∧ A i ∧ born hs l i
def Last (S p:Nat → Prop) (k:Nat):Prop:=(k = 0 ∨ (S (k - 1) ∧ p (k - 1))) ∧ ∀ i,S i → p i → i < k
def Aof (ops:Array Oper) (k i:Nat):Prop:=k ≠ 0 ∧ upto ops (k - 1) i
theorem dset_mono {K0:Ctx} {n:Nat} {A B:Nat → Prop} (h:∀ i,A i → B i) {l:Nat} (hd:dset K0 n hs A l):dset K0 n hs B l :=
 hd.imp id fun ⟨i,h0,h1,h2⟩ => ⟨i,h0,h i h1,h2⟩
theorem lastBelow (p : Nat → Prop) : ∀ j, ∃ k, k ≤ j ∧ (k = 0 ∨ p (k - 1)) ∧ ∀ i, p i → i < j → i < k
  | 0 => ⟨0,Nat.le_refl _,.inl rfl,fun i _ h => h⟩
  | j + 1 => by
    by_cases h:p j
    · exact ⟨j + 1,Nat.le_refl _,.inr h,fun i _ h => h⟩
    · obtain ⟨k, h1, h2, h3⟩ := lastBelow p j
      exact ⟨k, Nat.le_succ_of_le h1, h2, fun i hp hi => h3 i hp (by
        rcases Nat.lt_or_ge i j with g | g
        · exact g
        · have:i = j:=by omega
          subst this; exact absurd hp h)⟩
theorem sync {S:Nat → Prop} {j:Nat} (hclo:∀ j,S j → ∀ i,bef ops j i = true → S i) (hj:¬ S j) (hb:∀ i,bef ops j i = true → S i) (p:Nat → Prop)
  (h1:∀ i,i < j → p i → bef ops j i = true) (h2:∀ i,S i → j < i → p i → bef ops i j = true) :
  ∃ k,k ≤ j ∧ Last S p k ∧ (k = 0 ∨ bef ops j (k - 1) = true) ∧ (∀ i,i < j → p i → i < k) ∧ ∀ i,S i → p i → bef ops j i = true:=by
 have all:∀ i,S i → p i → i < j ∧ bef ops j i = true:=fun i hi hp => by
  rcases Nat.lt_trichotomy i j with g | g | g
  ·exact ⟨g,h1 i g hp⟩
  ·subst g; exact absurd hi hj
  ·exact absurd (hclo i hi j (h2 i hi g hp)) hj
 obtain ⟨k,k1,k2,k3⟩:=lastBelow p j
 refine ⟨k,k1,⟨?_,fun i hi hp => k3 i hp (all i hi hp).1⟩,?_,fun i hi hp => k3 i hp hi,fun i hi hp => (all i hi hp).2⟩
 ·rcases Nat.eq_zero_or_pos k with g | g
  ·exact .inl g
  ·rcases k2 with k2 | k2
   ·exact .inl k2
   ·exact .inr ⟨hb _ (h1 _ (by omega) k2),k2⟩
 ·rcases Nat.eq_zero_or_pos k with g | g
  ·exact .inl g
  ·rcases k2 with k2 | k2
   ·exact .inl k2
   ·exact .inr (h1 _ (by omega) k2)

structure Fa (hs:Nat → Heap) (m:Nat):Prop where
 nxt:∀ j,j < m → (hs j).next ≤ (hs (j + 1)).next
 bnd:∀ j,j ≤ m → ∀ l B,(hs j).blk l = some B → l < (hs j).next
theorem Fa.mono {m : Nat} (fa : Fa hs m) : ∀ {k i : Nat}, i ≤ k → k ≤ m → (hs i).next ≤ (hs k).next
  | 0, i, h, _ => by have : i = 0 := by omega
                     subst this; exact Nat.le_refl _
  | k + 1, i, h, hk => by
    rcases Nat.lt_or_ge i (k + 1) with g | g
    · exact Nat.le_trans (fa.mono (k:=k) (by omega) (by omega)) (fa.nxt k (by omega))
    · have:i = k + 1:=by omega
      subst this; exact Nat.le_refl _
theorem Fa.born_uniq {m:Nat} (fa:Fa hs m) {l i j:Nat} (hi:i < m) (hj:j < m) (h1:born hs l i) (h2:born hs l j):i = j:=by
 rcases Nat.lt_trichotomy i j with g | g | g
 ·have:=fa.mono (i:=i + 1) (k:=j) g (by omega)
  have:=h1.2; have:=h2.1; omega
 ·exact g
 ·have:=fa.mono (i:=j + 1) (k:=i) g (by omega)
  have:=h2.2; have:=h1.1; omega
structure VS (C:Cfg) (ops:Array Oper) (hs:Nat → Heap) (es:Nat → Env) (i:Nat):Prop where
 floor:(hs (i + 1)).floor = (hs i).floor
 chg:∀ l,l < (hs i).next → (hs (i + 1)).blk l ≠ (hs i).blk l → hitS C ops hs es l i
 keep:∀ l,l < (hs i).next → (∃ B,(hs (i + 1)).blk l = some B) → ∃ B,(hs i).blk l = some B
 lo:∀ l,l < (hs i).next → (hs (i + 1)).blk l ≠ (hs i).blk l → (hs i).floor ≤ l
theorem isS_not_isQ {o:Op} (h:isS o = true):isQ o = false:=by cases o <;> simp [isS,isQ] at h ⊢
theorem isT_some {i : Nat} (h : isT C ops i = true) : ∃ o, ops[i]? = some o ∧ isQ o.op = true := by
  unfold isT at h
  cases ho:ops[i]? with
  | none => rw [ho] at h; cases h
  | some o =>
    rw [ho] at h
    simp only [Bool.and_eq_true] at h
    refine ⟨o,rfl,?_⟩
    have h1:=h.1
    cases hop:o.op <;> rw [hop] at h1 <;> simp only [tOp,Bool.false_eq_true] at h1 <;> try rfl
    rename_i c
    unfold isQ
    simp only
    cases hc:c.callee with
    | builtin b => rw [hc] at h1; cases b <;> simp_all
    | value f => rfl
    | invoke _ _ => rw [hc] at h1; simp at h1
theorem isT_cmp {i k : Nat} {o : Oper} (h : isT C ops i = true) (ho : ops[k]? = some o) (hm : isQ o.op = true ∨ isS o.op = true ∨ isL o.op = true) (hk : k ≠ i) : bef ops i k = true ∨ bef ops k i = true := by
  unfold isT at h
  cases hoi:ops[i]? with
  | none => rw [hoi] at h; cases h
  | some oi =>
    rw [hoi] at h
    simp only [Bool.and_eq_true,List.all_eq_true] at h
    have:=h.2 k (List.mem_range.2 (Array.getElem?_eq_some_iff.1 ho).1)
    rw [ho] at this
    simp only [Bool.or_eq_true,beq_iff_eq,Bool.not_eq_true',Bool.or_eq_false_iff] at this
    rcases this with ((h1 | h1) | h1) | h1
    · exact absurd h1 hk
    · rcases hm with h2 | h2 | h2 <;> simp_all
    · exact .inl h1
    · exact .inr h1
theorem Tr.bsAny {n : Nat} (tr : Tr C call ops n0 hs es vs bs 0 n) (b0 : bs 0 = []) (f : Nat × Nat × Nat × V → Bool) : ∀ j, j ≤ n → ((bs j).any f = true ↔ ∃ i o, i < j ∧ ops[i]? = some o ∧ f (i, (hs i).next, (hs (i + 1)).next, ptrOf C (es i) o.op) = true)
  | 0,_ => by rw [b0]; simp
  | j + 1, hj => by
    obtain ⟨o,ho,_,_,_,hb⟩:=tr j (Nat.zero_le _) (by omega)
    rw [hb,List.any_cons,Bool.or_eq_true,tr.bsAny b0 f j (by omega)]
    constructor
    · rintro (h | ⟨i,o',h1,h2,h3⟩)
      · exact ⟨j,o,Nat.lt_succ_self j,ho,h⟩
      · exact ⟨i,o',by omega,h2,h3⟩
    · rintro ⟨i, o', h1, h2, h3⟩
      by_cases e:i = j
      · subst e
        rw [ho] at h2; injection h2 with h2; subst h2
        exact .inl h3
      · exact .inr ⟨i,o',by omega,h2,h3⟩
theorem visP_of {n:Nat} (tr:Tr C call ops (hs 0).next hs es vs bs 0 n) (b0:bs 0 = []) {j l:Nat} (hj:j ≤ n) (h:vis ops (hs 0).next (bs j) j l = true):visP ops hs j l:=by
 unfold vis at h
 rw [Bool.or_eq_true,tr.bsAny b0 _ j hj] at h
 rcases h with hl | ⟨i,o',h1,h2,h3⟩
 ·exact .inl (of_decide_eq_true hl)
 ·simp only [Bool.and_eq_true,decide_eq_true_eq] at h3
  exact .inr ⟨i,h3.2,h1,h3.1⟩
theorem vis_of {n:Nat} (tr:Tr C call ops (hs 0).next hs es vs bs 0 n) (b0:bs 0 = []) {j l:Nat} (hj:j ≤ n) (h:visP ops hs j l):vis ops (hs 0).next (bs j) j l = true:=by
 unfold vis
 rw [Bool.or_eq_true,tr.bsAny b0 _ j hj]
 rcases h with hl | ⟨i,h1,h2,h3⟩
 ·exact .inl (decide_eq_true hl)
 ·obtain ⟨o,ho,_⟩:=tr i (Nat.zero_le _) (by omega)
  exact .inr ⟨i,o,h2,ho,by simp only [Bool.and_eq_true,decide_eq_true_eq]; exact ⟨h3,h1⟩⟩
theorem vs_of (od : Ord ops) {n : Nat} (tr : Tr C call ops (hs 0).next hs es vs bs 0 n) (b0 : bs 0 = []) {i : Nat} (hi : i < n) (hfl : (hs i).floor = (hs 0).floor) (bnd : ∀ l B, (hs i).blk l = some B → l < (hs i).next) : VS C ops hs es i := by
  obtain ⟨o,ho,_,hst,_,_⟩:=tr i (Nat.zero_le _) hi
  unfold stepD at hst
  cases hT:isT C ops i with
  | true =>
    rw [hT,if_pos rfl] at hst
    unfold trun at hst
    cases hg:guarded C call ops (es i) o ⟨fun l => if vis ops (hs 0).next (bs i) i l then (hs i).blk l else none,(hs i).next,(hs i).floor⟩ with
    | none => rw [hg] at hst; cases hst
    | some x =>
      rw [hg] at hst
      simp only [Option.bind_some,Option.some.injEq,Prod.mk.injEq] at hst
      obtain ⟨_,hst⟩:=hst
      have e : ∀ l, l < (hs i).next → (hs (i + 1)).blk l = if vis ops (hs 0).next (bs i) i l && decide ((hs i).floor ≤ l) && ((hs i).blk l).isSome then x.2.blk l else (hs i).blk l := fun l hl => by
        rw [← hst]; show (if l < (hs i).next then _ else _) = _; rw [if_pos hl]
      have key : ∀ l, l < (hs i).next → (hs (i + 1)).blk l ≠ (hs i).blk l → vis ops (hs 0).next (bs i) i l = true ∧ (hs i).floor ≤ l ∧ ∃ B, (hs i).blk l = some B := fun l hl h => by
        rw [e l hl] at h
        split at h
        · rename_i hc
          simp only [Bool.and_eq_true,decide_eq_true_eq,Option.isSome_iff_exists] at hc
          exact ⟨hc.1.1,hc.1.2,hc.2⟩
        · exact absurd rfl h
      refine ⟨by rw [← hst],fun l hl h => ?_,fun l hl h => ?_,fun l hl h => (key l hl h).2.1⟩
      · obtain ⟨h1,h2,h3⟩:=key l hl h
        exact .inr ⟨hT,by rw [← hfl]; exact h2,visP_of tr b0 (Nat.le_of_lt hi) h1,h3⟩
      · rw [e l hl] at h
        split at h
        · rename_i hc
          simp only [Bool.and_eq_true,decide_eq_true_eq,Option.isSome_iff_exists] at hc
          exact hc.2
        · exact h
  | false =>
  have one : ∀ l, hitS C ops hs es l i → isS o.op = true := fun l h => by
    rcases h with ⟨o',h1,h2,_⟩ | ⟨h1,_⟩
    · rw [ho] at h1; injection h1 with h1; subst h1; exact h2
    · rw [hT] at h1; cases h1
  rw [hT,if_neg (by simp)] at hst
  cases hq:isQ o.op with
  | true =>
    rw [hq,if_pos rfl] at hst
    unfold qrun at hst
    cases hg:guarded C call ops (es i) o ⟨fun l => if vis ops (hs 0).next (bs i) i l then (hs i).blk l else none,(hs i).next,(hs i).next⟩ with
    | none => rw [hg] at hst; cases hst
    | some x =>
      rw [hg] at hst
      simp only [Option.bind_some,Option.some.injEq,Prod.mk.injEq] at hst
      obtain ⟨_,hst⟩:=hst
      have e:∀ l,l < (hs i).next → (hs (i + 1)).blk l = (hs i).blk l:=fun l hl => by rw [← hst]; show (if l < (hs i).next then _ else _) = _; rw [if_pos hl]
      refine ⟨by rw [← hst],fun l hl h => absurd (e l hl) h,fun l hl h => by rwa [e l hl] at h,fun l hl h => ?_⟩
      exact absurd (e l ‹_›) ‹_›
  | false =>
    rw [hq,if_neg (by simp)] at hst
    cases hm:memConv C.P o.op with
    | true => rw [hm,if_pos rfl] at hst; cases hst
    | false =>
    rw [hm,if_neg (by simp)] at hst
    obtain ⟨H2',_,lo⟩:=local_guarded (H2:=hs i) hq (od.ok i o ho) hm hst rfl (fun _ => rfl) (fun _ _ _ _ _ => rfl) bnd
    exact ⟨lo.floor, fun l hl h => by obtain ⟨h1, h2⟩ := lo.chg l hl h; exact .inl ⟨o, ho, h1, h2⟩, lo.keep, fun l hl h => by
      obtain ⟨h1,a,f,h2⟩:=lo.chg l hl h
      rcases lo.low l a f h1 h2 with h3 | h3
      · exact h3.1
      · rw [h3.1] at h; exact absurd rfl h⟩
end
end Go.Fv
