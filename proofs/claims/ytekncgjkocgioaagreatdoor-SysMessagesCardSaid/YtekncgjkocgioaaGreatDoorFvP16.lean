/-
  The orders that a region leaves open. By an AI agent; no person has read it.
-/
import Derived.Test.YtekncgjkocgioaaGreatDoorFvP15
set_option linter.unusedVariables false
set_option linter.unusedSimpArgs false
set_option linter.unusedSectionVars false
/-! The orders that a region leaves open. -/
namespace Go.Fv
open Go
def befG (acc:Array Nat) (o:Oper):Nat :=
 o.after.foldl (fun s e => if Region.binds .any e then s ||| 2 ^ e.on ||| acc.getD e.on 0 else s) 0
def befStep (acc:Array Nat) (o:Oper):Array Nat:=acc.push (befG acc o)
theorem befOf_eq (ops:Array Oper):befOf ops = ops.toList.foldl befStep #[]:=by
 unfold befOf
 rw [← Array.foldl_toList]
 rfl
theorem befStep_size : ∀ (l : List Oper) (acc : Array Nat), (l.foldl befStep acc).size = acc.size + l.length
  | [],acc => rfl
  | o :: l, acc => by
    rw [List.foldl_cons,befStep_size l]
    simp [befStep]
    omega
theorem befStep_low : ∀ (l : List Oper) (acc : Array Nat) (k : Nat), k < acc.size → (l.foldl befStep acc).getD k 0 = acc.getD k 0
  | [],acc,k,_ => rfl
  | o :: l, acc, k, h => by
    rw [List.foldl_cons,befStep_low l _ k (by simp [befStep]; omega)]
    simp only [befStep,Array.getD_eq_getD_getElem?]
    rw [Array.getElem?_push_lt h,Array.getElem?_eq_getElem h]
theorem testBit_fold (acc : Array Nat) (i : Nat) : ∀ (l : List Edge) (s : Nat), (l.foldl (fun s e => if Region.binds .any e then s ||| 2 ^ e.on ||| acc.getD e.on 0 else s) s).testBit i = true ↔
    s.testBit i = true ∨ ∃ e ∈ l,Region.binds .any e = true ∧ (e.on = i ∨ (acc.getD e.on 0).testBit i = true)
  | [],s => by simp
  | e :: l, s => by
    rw [List.foldl_cons,testBit_fold acc i l]
    by_cases hb:Region.binds .any e = true
    · rw [if_pos hb]
      simp only [Nat.testBit_or,Nat.testBit_two_pow,Bool.or_eq_true,decide_eq_true_eq,List.mem_cons]
      constructor
      · rintro (((h | h) | h) | ⟨e',h1,h2,h3⟩)
        · exact .inl h
        · exact .inr ⟨e,.inl rfl,hb,.inl h⟩
        · exact .inr ⟨e,.inl rfl,hb,.inr h⟩
        · exact .inr ⟨e',.inr h1,h2,h3⟩
      · rintro (h | ⟨e', rfl | h1, h2, h3⟩)
        · exact .inl (.inl (.inl h))
        · rcases h3 with h3 | h3
          · exact .inl (.inl (.inr h3))
          · exact .inl (.inr h3)
        · exact .inr ⟨e',h1,h2,h3⟩
    · rw [if_neg hb]
      simp only [List.mem_cons]
      constructor
      · rintro (h | ⟨e',h1,h2,h3⟩)
        · exact .inl h
        · exact .inr ⟨e',.inr h1,h2,h3⟩
      · rintro (h | ⟨e',rfl | h1,h2,h3⟩)
        · exact .inl h
        · exact absurd h2 hb
        · exact .inr ⟨e',h1,h2,h3⟩
structure Ord (ops:Array Oper):Prop where
 ok:∀ (j:Nat) o,ops[j]? = some o → okOp o.op = true
 edge:∀ (j:Nat) o,ops[j]? = some o → ∀ e ∈ o.after.toList,Region.binds .any e = true → e.on < j
 clash:∀ (i j:Nat) a b,i < j → ops[i]? = some a → ops[j]? = some b → clash ops a b = true → bef ops j i = true
theorem ord_of {ops:Array Oper} (h:orderOk ops = true):Ord ops:=by
 unfold orderOk at h
 rw [Bool.and_eq_true,List.all_eq_true,List.all_eq_true] at h
 have mem:∀ (j:Nat) o,ops[j]? = some o → (o,j) ∈ ops.toList.zipIdx:=fun j o hj => by
  rw [List.mem_zipIdx_iff_getElem?]
  simpa using hj
 refine ⟨fun j o hj => ?_,fun j o hj e he hb => ?_,fun i j a b hij ha hb hc => ?_⟩
 ·have:=h.1 _ (mem j o hj)
  rw [Bool.and_eq_true] at this
  exact this.1
 ·have:=h.1 _ (mem j o hj)
  rw [Bool.and_eq_true,List.all_eq_true] at this
  have:=this.2 e he
  rw [hb] at this
  simpa using this
 ·have:=h.2 _ (mem j b hb)
  rw [List.all_eq_true] at this
  have:=this _ (mem i a ha)
  simp only [hc,decide_eq_true hij,Bool.not_true,Bool.false_or] at this
  exact this
section
variable {ops:Array Oper} (od:Ord ops)
include od
theorem bef_iff {j:Nat} {o:Oper} (hj:ops[j]? = some o) (i:Nat):bef ops j i = true ↔ ∃ e ∈ o.after.toList,Region.binds .any e = true ∧ (e.on = i ∨ bef ops e.on i = true):=by
 have hj':ops.toList[j]? = some o:=by simpa using hj
 have hlt:j < ops.toList.length:=(List.getElem?_eq_some_iff.1 hj').1
 obtain ⟨l1,l2,hsplit,htl⟩:∃ l1 l2,ops.toList = l1 ++ o :: l2 ∧ l1.length = j:=by
  refine ⟨ops.toList.take j,ops.toList.drop (j + 1),?_,by rw [List.length_take]; omega⟩
  have h1:ops.toList.drop j = o :: ops.toList.drop (j + 1):=by
   rw [List.drop_eq_getElem_cons hlt]
   congr 1
   exact (List.getElem?_eq_some_iff.1 hj').2
  rw [← h1,List.take_append_drop]
 have hA:(l1.foldl befStep #[]).size = j:=by rw [befStep_size]; simp [htl]
 have hval:(befOf ops).getD j 0 = befG (l1.foldl befStep #[]) o:=by
  rw [befOf_eq,hsplit,List.foldl_append,List.foldl_cons,befStep_low _ _ j (by simp only [befStep,Array.size_push]; omega)]
  simp only [befStep,Array.getD_eq_getD_getElem?]
  rw [Array.getElem?_push,if_pos hA.symm]
  rfl
 have hlow:∀ k,k < j → (l1.foldl befStep #[]).getD k 0 = (befOf ops).getD k 0:=fun k hk => by
  rw [befOf_eq,hsplit,List.foldl_append]
  exact (befStep_low (o :: l2) (l1.foldl befStep #[]) k (by omega)).symm
 unfold bef
 rw [hval]
 unfold befG
 rw [← Array.foldl_toList,testBit_fold]
 simp only [Nat.zero_testBit,Bool.false_eq_true,false_or]
 constructor
 ·rintro ⟨e,h1,h2,h3⟩
  exact ⟨e,h1,h2,h3.imp id (fun h => by rwa [hlow _ (od.edge j o hj e h1 h2)] at h)⟩
 ·rintro ⟨e,h1,h2,h3⟩
  exact ⟨e,h1,h2,h3.imp id (fun h => by rwa [hlow _ (od.edge j o hj e h1 h2)])⟩
theorem bef_out {j:Nat} (hj:ops.size ≤ j) (i:Nat):bef ops j i = false:=by
 unfold bef
 have:(befOf ops).getD j 0 = 0:=by
  rw [Array.getD_eq_getD_getElem?,Array.getElem?_eq_none (by rw [befOf_eq,befStep_size]; simpa using hj)]
  rfl
 rw [this,Nat.zero_testBit]
theorem bef_lt : ∀ (j i : Nat), bef ops j i = true → i < j := by
  intro j
  induction j using Nat.strongRecOn with
  | _ j ih =>
    intro i h
    cases hj:ops[j]? with
    | none => rw [bef_out od (by simpa using hj)] at h; cases h
    | some o =>
      obtain ⟨e,h1,h2,h3⟩:=(bef_iff od hj i).1 h
      have hlt:=od.edge j o hj e h1 h2
      rcases h3 with rfl | h3
      · exact hlt
      · exact Nat.lt_trans (ih _ hlt i h3) hlt
theorem bef_trans : ∀ (j i k : Nat), bef ops j i = true → bef ops i k = true → bef ops j k = true := by
  intro j
  induction j using Nat.strongRecOn with
  | _ j ih =>
    intro i k h hk
    cases hj:ops[j]? with
    | none => rw [bef_out od (by simpa using hj)] at h; cases h
    | some o =>
      obtain ⟨e,h1,h2,h3⟩:=(bef_iff od hj i).1 h
      have hlt:=od.edge j o hj e h1 h2
      refine (bef_iff od hj k).2 ⟨e,h1,h2,.inr ?_⟩
      rcases h3 with rfl | h3
      · exact hk
      · exact ih _ hlt i k h3 hk
end
end Go.Fv
namespace Go.Fv
open Go
def Lite (m:M V):Prop:=∀ H v H',m H = some (v,H') → (H' = H ∧ ∀ H2,m H2 = some (v,H2)) ∨ ∃ b,H' = H.add b ∧ ∀ H2:Heap,H2.next = H.next → m H2 = some (v,H2.add b)
theorem lite_lift (o:Option V):Lite (M.lift o):=fun H v H' h => by
 obtain ⟨h1,rfl⟩:=lift_eq h
 exact .inl ⟨rfl,fun H2 => by rw [h1]; rfl⟩
theorem lite_ret (a:V):Lite (M.ret a):=fun H v H' h => by
 simp only [M.ret,Option.some.injEq,Prod.mk.injEq] at h
 obtain ⟨rfl,rfl⟩:=h
 exact .inl ⟨rfl,fun H2 => rfl⟩
theorem lite_fail:Lite M.fail:=fun H v H' h => by cases h
theorem lite_newV (x : V) : Lite (newV x) := fun H v H' h => by
  unfold newV at h
  cases hc:x.cells? with
  | none => rw [hc] at h; simp at h
  | some cs =>
    rw [hc] at h
    simp only [Option.bind_some,Option.some.injEq,Prod.mk.injEq] at h
    obtain ⟨rfl,rfl⟩:=h
    exact .inr ⟨_,rfl,fun H2 hn => by unfold newV; rw [hc,← hn]; rfl⟩
theorem lite_newRows (sz:Nat) (rows:List (List V)) (ex:Bool):Lite (newRows sz rows ex):=fun H v H' h => by
 simp only [newRows,Option.some.injEq,Prod.mk.injEq] at h
 obtain ⟨rfl,rfl⟩:=h
 exact .inr ⟨_,rfl,fun H2 hn => by unfold newRows; rw [hn]⟩
theorem lite_sliceV (sz len : Nat) (z : List V) (ps : List (Nat × V)) : Lite (sliceV sz len z ps) := fun H v H' h => by
  cases len with
  | zero =>
    cases ps with
    | nil =>
      simp only [sliceV,Option.some.injEq,Prod.mk.injEq] at h
      obtain ⟨rfl,rfl⟩:=h
      exact .inl ⟨rfl,fun H2 => rfl⟩
    | cons p ps => cases h
  | succ len =>
    have e:∀ H,sliceV sz (len + 1) z ps H = (fillRows sz (List.replicate (len + 1) z) ps).bind fun rows => newRows sz rows true H:=fun H => rfl
    rw [e] at h
    cases hf:fillRows sz (List.replicate (len + 1) z) ps with
    | none => rw [hf] at h; cases h
    | some rows =>
      rw [hf] at h
      rcases lite_newRows sz rows true H v H' h with ⟨h1,h2⟩ | ⟨b,h1,h2⟩
      · exact .inl ⟨h1,fun H2 => by rw [e,hf]; exact h2 H2⟩
      · exact .inr ⟨b,h1,fun H2 hn => by rw [e,hf]; exact h2 H2 hn⟩
theorem lite_newCap (sz n:Nat) (rows:List (List V)):Lite (newCap sz n rows):=fun H v H' h => by
 simp only [newCap,Option.some.injEq,Prod.mk.injEq] at h
 obtain ⟨rfl,rfl⟩:=h
 exact .inr ⟨_,rfl,fun H2 hn => by unfold newCap; rw [hn]⟩
theorem lite_makeV (sz bytes : Nat) (z : List V) (n c : V) : Lite (makeV sz bytes z n c) := fun H v H' h => by
  unfold makeV at h ⊢
  cases hn:natOf n with
  | none => rw [hn] at h; cases h
  | some n' =>
  cases hc:natOf c with
  | none => rw [hn,hc] at h; cases h
  | some c' =>
    simp only [hn,hc,Option.bind_some] at h ⊢
    split at h
    · rename_i hif
      simp only [if_pos hif]
      cases c' with
      | zero =>
        simp only [Option.some.injEq,Prod.mk.injEq] at h
        obtain ⟨rfl,rfl⟩:=h
        exact .inl ⟨rfl,fun H2 => rfl⟩
      | succ c' => exact lite_newCap sz n' _ H v H' h
    · cases h
section
variable {C:Cfg} {call:FuncId → List V → M V} {ops:Array Oper}
theorem lite_step (e : Operand → V) (o : Op) (hq : isQ o = false) (hs : isS o = false) (hl : isL o = false) (hok : okOp o = true) (hm : memConv C.P o = false) : Lite (stepV C call e o) := by
  cases o
  case call c =>
    obtain ⟨callee,args,ats⟩:=c
    cases callee with
    | value f => simp [isQ] at hq
    | invoke r n => exact lite_fail
    | builtin b =>
      have two : ∀ (b : Builtin) (f : V → V → Option V), (∀ x y, builtinV C b ats [x, y] = M.lift (f x y)) → (∀ xs, xs.length ≠ 2 → builtinV C b ats xs = M.fail) → Lite (builtinV C b ats (args.toList.map e)) := fun b f h1 h2 => by
        generalize args.toList.map e = xs
        match xs with
        | [x,y] => rw [h1]; exact lite_lift _
        | [] => rw [h2 _ (by simp)]; exact lite_fail
        | [_] => rw [h2 _ (by simp)]; exact lite_fail
        | _ :: _ :: _ :: _ => rw [h2 _ (by simp)]; exact lite_fail
      cases b <;> simp [okOp,isQ] at hok hq
      · show Lite (builtinV C .len ats (args.toList.map e))
        generalize args.toList.map e = xs
        match xs with
        | [x] =>
          simp only [builtinV]
          split <;> first | exact lite_lift _ | exact lite_ret _ | exact lite_fail
        | [] => exact lite_fail
        | _ :: _ :: _ => exact lite_fail
      · exact two .max maxV (fun _ _ => rfl) fun xs h => by
          match xs,h with
          | [],_ => rfl
          | [_],_ => rfl
          | _ :: _ :: _ :: _,_ => rfl
      · exact two .min minV (fun _ _ => rfl) fun xs h => by
          match xs,h with
          | [],_ => rfl
          | [_],_ => rfl
          | _ :: _ :: _ :: _,_ => rfl
  case load => simp [isL] at hl
  case store => simp [isS] at hs
  case move => exact lite_ret _
  case assign => exact lite_ret _
  case pick => exact lite_lift _
  case alloc t => show Lite (match zeroC C.P t with | some z => newV (.agg z) | none => M.fail); split <;> first | exact lite_newV _ | exact lite_fail
  case box => exact lite_newV _
  case build t parts =>
    show Lite (opV C e (.build t parts))
    simp only [opV]
    repeat' split
    all_goals first | exact lite_lift _ | exact lite_fail
  case buildSlice t n parts =>
    show Lite (opV C e (.buildSlice t n parts))
    simp only [opV]
    repeat' split
    all_goals first | exact lite_sliceV _ _ _ _ | exact lite_fail
  case nilCheck => exact lite_lift _
  case binOp => exact lite_lift _
  case unOp => exact lite_lift _
  case convert s d x =>
    show Lite (convM C.P s d (e x))
    simp only [memConv] at hm
    unfold convM
    split
    · rename_i h1 h2
      rw [h1,h2] at hm
      cases hm
    · split
      · split <;> first | exact lite_newRows _ _ _ | exact lite_fail
      · exact lite_fail
    · exact lite_lift _
  case makeInterface t x => show Lite (opV C e (.makeInterface t x)); simp only [opV]; split <;> first | exact lite_lift _ | exact lite_fail
  case makeFunc fn first caps =>
    show Lite (opV C e (.makeFunc fn first caps))
    cases fn <;> simp only [opV] <;> first | exact lite_fail | ((repeat' split) <;> first | exact lite_ret _ | exact lite_fail)
  case makeSlice t n c =>
    show Lite (opV C e (.makeSlice t n c))
    simp only [opV]
    repeat' split
    all_goals first | exact lite_makeV _ _ _ _ _ | exact lite_fail
  case slice t x lo hi mx =>
    show Lite (opV C e (.slice t x lo hi mx))
    simp only [opV]
    repeat' split
    all_goals first | exact lite_lift _ | exact lite_fail
  case fieldAddr s x f =>
    show Lite (opV C e (.fieldAddr s x f))
    simp only [opV]
    repeat' split
    all_goals first | exact lite_lift _ | exact lite_fail
  case field t x f =>
    show Lite (opV C e (.field t x f))
    simp only [opV]
    repeat' split
    all_goals first | exact lite_lift _ | exact lite_fail
  case indexAddr t x i =>
    show Lite (opV C e (.indexAddr t x i))
    simp only [opV]
    repeat' split
    all_goals first | exact lite_lift _ | exact lite_fail
  case index t x i =>
    show Lite (opV C e (.index t x i))
    simp only [opV]
    repeat' split
    all_goals first | exact lite_lift _ | exact lite_fail
  case makeMap => simp [isQ] at hq
  case lookup => simp [isQ] at hq
  case mapUpdate => simp [isQ] at hq
  case extract => exact lite_lift _
  all_goals exact lite_fail
structure Local (isSt:Bool) (p:V) (H H' H2 H2':Heap):Prop where
 floor:H'.floor = H.floor
 next:H2'.next = H'.next
 le:H.next ≤ H'.next
 chg:∀ l,l < H.next → H'.blk l ≠ H.blk l → isSt = true ∧ (∃ i f,p = .ptr l i f)
 low:∀ l i f,isSt = true → p = .ptr l i f → (H.floor ≤ l ∧ (∃ B,H.blk l = some B) ∨ H' = H ∧ H2' = H2)
 keep:∀ l,l < H.next → (∃ B,H'.blk l = some B) → ∃ B,H.blk l = some B
 at_:∀ l i f,isSt = true → p = .ptr l i f → H2'.blk l = H'.blk l
 new:∀ l,H.next ≤ l → l < H'.next → H2'.blk l = H'.blk l
 out:∀ l,H'.next ≤ l → H'.blk l = H.blk l
 nb:isSt = true → H'.next = H.next
theorem local_lite {m:M V} (hm:Lite m) {H H' H2:Heap} {v:V} (h:m H = some (v,H')) {isSt:Bool} {p:V} (hn:H2.next = H.next) (hf:isSt = false):∃ H2',m H2 = some (v,H2') ∧ Local isSt p H H' H2 H2':=by
 subst hf
 rcases hm H v H' h with ⟨rfl,h2⟩ | ⟨b,rfl,h2⟩
 ·exact ⟨H2,h2 H2,rfl,hn,Nat.le_refl _,fun l _ h => absurd rfl h,fun l i f h => (by cases h),fun l _ h => h,fun l i f h => (by cases h),fun l h1 h2 => by omega,fun l _ => rfl,fun _ => rfl⟩
 ·have b1:∀ (G:Heap) l,(G.add b).blk l = if l = G.next then some b else G.blk l:=fun _ _ => rfl
  refine ⟨H2.add b,h2 H2 hn,rfl,by show H2.next + 1 = H.next + 1; rw [hn],Nat.le_succ _,fun l hl h => ?_,fun l i f h => (by cases h),fun l hl h => ?_,fun l i f h => (by cases h),fun l h1 h2 => ?_,fun l h1 => ?_,fun h => (by cases h)⟩
  ·rw [b1,if_neg (by omega)] at h; exact absurd rfl h
  ·rw [b1,if_neg (by omega)] at h; exact h
  ·have h2':l < H.next + 1:=h2
   have:l = H.next:=by omega
   subst this
   rw [b1,b1,hn,if_pos rfl,if_pos rfl]
  ·have h1':H.next + 1 ≤ l:=h1
   rw [b1,if_neg (by omega)]
theorem local_same {H H2:Heap} {isSt:Bool} {p:V} (hn:H2.next = H.next) (hp:∀ l i f,p = .ptr l i f → H2.blk l = H.blk l):Local isSt p H H H2 H2 :=
 ⟨rfl,hn,Nat.le_refl _,fun l _ h => absurd rfl h,fun l i f _ _ => .inr ⟨rfl,rfl⟩,fun l _ h => h,fun l i f _ h => hp l i f h,fun l h1 h2 => by omega,fun l _ => rfl,fun _ => rfl⟩
theorem local_step {e : Operand → V} {o : Op} {p : V} {H H' H2 : Heap} {v : V} (hq : isQ o = false) (hok : okOp o = true) (hm : memConv C.P o = false) (h : stepV C call e o H = some (v, H')) (hn : H2.next = H.next) (hf : isS o = true → H2.floor = H.floor)
    (hp:∀ t x,o = .load t x → e x = p) (hp':∀ t x y,o = .store t x y → e x = p) (hb:∀ l i f,(isL o = true ∨ isS o = true) → p = .ptr l i f → H2.blk l = H.blk l) (hbnd:∀ l B,H.blk l = some B → l < H.next) :
    ∃ H2',stepV C call e o H2 = some (v,H2') ∧ Local (isS o) p H H' H2 H2':=by
  cases hS:isS o with
  | true =>
    cases o <;> simp [isS] at hS
    rename_i t x y
    have hx:=hp' t x y rfl
    have e1:∀ G,stepV C call e (.store t x y) G = (if 0 < C.P.cellsOf t then storeN (C.P.cellsOf t) p (e y) else M.fail) G:=fun G => by rw [← hx]; rfl
    rw [e1] at h
    rw [e1]
    by_cases h0:0 < C.P.cellsOf t
    case neg => rw [if_neg h0] at h; cases h
    rw [if_pos h0] at h ⊢
    cases p with
    | ptr l i f =>
      have e2 : ∀ G, storeN (C.P.cellsOf t) (.ptr l i f) (e y) G = (if G.floor ≤ l then
          ((e y).cells?).bind fun cs => if cs.length = C.P.cellsOf t then (G.blk l).bind fun b => (b.rows[i]?).bind fun r => (putRow r f cs).bind fun r' =>
            some (.undef,G.set l ⟨b.sz,b.rows.set i r'⟩) else none else none):=fun G => rfl
      have hbl:=hb l i f (.inr rfl) rfl
      have hfl:=hf rfl
      rw [e2] at h
      rw [e2,hfl,hbl]
      split at h
      case isFalse => cases h
      rename_i hle
      rw [if_pos hle]
      cases hc:(e y).cells? with
      | none => rw [hc] at h; cases h
      | some cs =>
      rw [hc] at h
      simp only [Option.bind_some] at h ⊢
      split at h
      case isFalse => cases h
      rename_i hlen
      rw [if_pos hlen]
      cases hB:H.blk l with
      | none => rw [hB] at h; cases h
      | some b =>
      rw [hB] at h
      simp only [Option.bind_some] at h ⊢
      cases hr:b.rows[i]? with
      | none => rw [hr] at h; cases h
      | some r =>
      rw [hr] at h
      simp only [Option.bind_some] at h ⊢
      cases hpr:putRow r f cs with
      | none => rw [hpr] at h; cases h
      | some r' =>
      rw [hpr] at h
      simp only [Option.bind_some,Option.some.injEq,Prod.mk.injEq] at h ⊢
      obtain ⟨rfl,rfl⟩:=h
      have hlt:=hbnd l b hB
      have s1:∀ (G:Heap) B l',(G.set l B).blk l' = if l' = l then some B else G.blk l':=fun _ _ _ => rfl
      refine ⟨_,⟨rfl,rfl⟩,rfl,hn,Nat.le_refl _,fun l' hl' hne => ?_,fun l' i' f' _ he => ?_,fun l' hl' hs => ?_,fun l' i' f' _ he => ?_,fun l' h1 h2 => ?_,fun l' h1 => ?_,fun _ => rfl⟩
      · by_cases el:l' = l
        · subst el; exact ⟨rfl,i,f,rfl⟩
        · rw [s1,if_neg el] at hne; exact absurd rfl hne
      · injection he with he; subst he; exact .inl ⟨hle,b,hB⟩
      · by_cases el:l' = l
        · subst el; exact ⟨b,hB⟩
        · rw [s1,if_neg el] at hs; exact hs
      · injection he with he; subst he; rw [s1,s1,if_pos rfl,if_pos rfl]
      · have h2':l' < H.next:=h2
        omega
      · have h1':H.next ≤ l':=h1
        rw [s1,if_neg (by omega)]
    | _ => cases h
  | false =>
    cases hL:isL o with
    | false => exact local_lite (lite_step e o hq hS hL hok hm) h hn rfl
    | true =>
      cases o <;> simp [isL] at hL
      rename_i t x
      have hx:=hp t x rfl
      have e1:∀ G,stepV C call e (.load t x) G = loadT C.P t p G:=fun G => by rw [← hx]; rfl
      rw [e1] at h
      rw [e1]
      have pl : placeV p H2 = placeV p H := by
        cases p with
        | ptr l i f => simp only [placeV]; rw [hb l i f (.inl rfl) rfl]
        | _ => rfl
      have key : ∀ G, placeV p G = placeV p H → ∃ w, loadT C.P t p G = some (v, G) ∧ w = v ∧ H' = H := fun G hG => by
        unfold loadT at h ⊢
        cases ha:isAgg C.P t with
        | none => rw [ha] at h; cases h
        | some ag =>
          rw [ha] at h
          cases ag with
          | true =>
            simp only [loadN] at h ⊢
            rw [hG]
            cases hpl:placeV p H with
            | none => rw [hpl] at h; cases h
            | some ro =>
              rw [hpl] at h
              simp only [Option.bind_some] at h ⊢
              split at h
              · rename_i hh
                simp only [Option.some.injEq,Prod.mk.injEq] at h
                obtain ⟨rfl,rfl⟩:=h
                rw [if_pos hh]
                exact ⟨_,rfl,rfl,rfl⟩
              · cases h
          | false =>
            simp only [load1] at h ⊢
            rw [hG]
            cases hpl:placeV p H with
            | none => rw [hpl] at h; cases h
            | some ro =>
              rw [hpl] at h
              simp only [Option.bind_some] at h ⊢
              cases hq2:ro.1[ro.2]? with
              | none => rw [hq2] at h; cases h
              | some c =>
                rw [hq2] at h
                simp only [Option.bind_some,Option.some.injEq,Prod.mk.injEq] at h
                obtain ⟨rfl,rfl⟩:=h
                exact ⟨_,rfl,rfl,rfl⟩
      obtain ⟨_,k1,_,k2⟩:=key H2 pl
      subst k2
      exact ⟨H2,k1,local_same hn (fun l i f he => hb l i f (.inl rfl) he)⟩
end
end Go.Fv
