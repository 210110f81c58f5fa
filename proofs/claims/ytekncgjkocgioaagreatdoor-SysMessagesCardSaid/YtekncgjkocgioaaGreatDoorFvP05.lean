/-
  Operations, further: numbers, tests, parts. By an AI agent; no person has read it.
-/
import Derived.Test.YtekncgjkocgioaaGreatDoorFvP04
import Derived.Laws.StructEq
set_option linter.unusedVariables false
set_option linter.unusedSimpArgs false
set_option linter.unusedSectionVars false
/-! Operations, further: numbers, tests, parts. -/
namespace Go.Fv
open Go
section
variable {C:Cfg} {σ:Nat → Addr} {K:Ctx} {H H':Heap} {w:World} {v:V}
theorem ok_arith {op : BinOp} {t : TypeId} {p q : Operand} {x y : V} {a b : Value} (hx : Rel σ K w x a) (hy : Rel σ K w y b) (h : arithV op x y = some v) :
    ∃ z,(do eqGuard op t p q a b; binOp op t a b:Sem Value).run C.P w = .ok z w ∧ Rel σ K w v z:=by
  cases hx with
  | int k m =>
    cases hy with
    | int k' n =>
      have kk : ∀ {o : Option V} , (if k = k' then o else none) = some v → k = k' ∧ o = some v := fun h => by
        split at h
        · rename_i e; exact ⟨e,h⟩
        · cases h
      cases op <;> simp only [arithV,reduceCtorEq] at h
      case add => obtain ⟨rfl,h1⟩:=kk h; injection h1 with h1; subst h1; exact ⟨_,by simp [eqGuard,binOp,Op.intArith] <;> rfl,.int _ _⟩
      case sub => obtain ⟨rfl,h1⟩:=kk h; injection h1 with h1; subst h1; exact ⟨_,by simp [eqGuard,binOp,Op.intArith] <;> rfl,.int _ _⟩
      case mul => obtain ⟨rfl,h1⟩:=kk h; injection h1 with h1; subst h1; exact ⟨_,by simp [eqGuard,binOp,Op.intArith] <;> rfl,.int _ _⟩
      case and => obtain ⟨rfl,h1⟩:=kk h; injection h1 with h1; subst h1; exact ⟨_,by simp [eqGuard,binOp,Op.intBits] <;> rfl,.int _ _⟩
      case or => obtain ⟨rfl,h1⟩:=kk h; injection h1 with h1; subst h1; exact ⟨_,by simp [eqGuard,binOp,Op.intBits] <;> rfl,.int _ _⟩
      case xor => obtain ⟨rfl,h1⟩:=kk h; injection h1 with h1; subst h1; exact ⟨_,by simp [eqGuard,binOp,Op.intBits] <;> rfl,.int _ _⟩
      case lss => obtain ⟨rfl,h1⟩:=kk h; injection h1 with h1; subst h1; exact ⟨_,by simp [eqGuard,binOp,Op.intCmp] <;> rfl,.bool _⟩
      case leq => obtain ⟨rfl,h1⟩:=kk h; injection h1 with h1; subst h1; exact ⟨_,by simp [eqGuard,binOp,Op.intCmp] <;> rfl,.bool _⟩
      case gtr => obtain ⟨rfl,h1⟩:=kk h; injection h1 with h1; subst h1; exact ⟨_,by simp [eqGuard,binOp,Op.intCmp] <;> rfl,.bool _⟩
      case geq => obtain ⟨rfl,h1⟩:=kk h; injection h1 with h1; subst h1; exact ⟨_,by simp [eqGuard,binOp,Op.intCmp] <;> rfl,.bool _⟩
      case quo =>
        split at h
        · rename_i e; obtain ⟨rfl,h0⟩:=e; injection h with h; subst h
          exact ⟨_,by simp [eqGuard,binOp,Op.intDiv,h0] <;> rfl,.int _ _⟩
        · cases h
      case rem =>
        split at h
        · rename_i e; obtain ⟨rfl,h0⟩:=e; injection h with h; subst h
          exact ⟨_,by simp [eqGuard,binOp,Op.intDiv,h0] <;> rfl,.int _ _⟩
        · cases h
      case shl =>
        split at h
        · cases h
        · rename_i e; injection h with h; subst h
          exact ⟨_,by simp [eqGuard,binOp,Op.shift,e] <;> rfl,.int _ _⟩
      case shr =>
        split at h
        · cases h
        · rename_i e; injection h with h; subst h
          exact ⟨_,by simp [eqGuard,binOp,Op.shift,e] <;> rfl,.int _ _⟩
    | _ => simp [arithV] at h
  | str s =>
    cases hy with
    | str u =>
      cases op <;> simp only [arithV,reduceCtorEq] at h
      case add =>
        split at h
        · cases h
        · rename_i hk; injection h with h; subst h
          refine ⟨.string (s ++ u),?_,.str _⟩
          have hk':¬ ((s.size:Int) + (u.size:Int) > IntKind.i64.max):=by simpa using hk
          have hm:IntKind.i64.max = 9223372036854775807:=by decide
          rw [hm] at hk'
          simp [eqGuard,binOp,Op.stringOp]
          omega
      case lss => injection h with h; subst h; exact ⟨_,by simp [eqGuard,binOp,Op.stringOp] <;> rfl,.bool _⟩
    | _ => simp [arithV] at h
  | _ => simp [arithV] at h
theorem ok_un {op:UnOp} {x:V} {a:Value} (hx:Rel σ K w x a) (h:unV op x = some v):∃ z,(Op.unary op a).run C.P w = .ok z w ∧ Rel σ K w v z:=by
 cases hx <;> cases op <;> simp only [unV,reduceCtorEq] at h
 case bool.not b => injection h with h; subst h; exact ⟨_,by simp [Op.unary] <;> rfl,.bool _⟩
 case int.neg k n => injection h with h; subst h; exact ⟨_,by simp only [Op.unary,Op.intArith]; rfl,.int _ _⟩
 case int.xor k n => injection h with h; subst h; exact ⟨_,by simp only [Op.unary,Op.intBits]; rfl,.int _ _⟩
theorem ok_conv {s d:TypeId} {x:V} {a:Value} (hx:Rel σ K w x a) (h:convV C.P s d x = some v):∃ z,(convert s d a).run C.P w = .ok z w ∧ Rel σ K w v z:=by
 unfold convV at h
 split at h
 ·rename_i k hs hd
  rename_i ds
  cases hx <;> simp [convI] at h
  subst h
  exact ⟨_,by simp [convert,run_underlying hs,run_underlying hd,Conv.intToInt] <;> rfl,.int _ _⟩
 ·rename_i hs hd
  cases hx <;> simp [convS] at h
  subst h
  exact ⟨_,by simp [convert,run_underlying hs,run_underlying hd] <;> rfl,.str _⟩
 ·cases h
theorem ok_iface {t:TypeId} {x:V} {a:Value} (hx:Rel σ K w x a) (ht:isIface C.P t = false) (h:ifaceV t x = some v):∃ z,(Instr.makeInterface t a).run C.P w = .ok z w ∧ Rel σ K w v z:=by
 have hu:∃ d,C.P.underlying t = some d ∧ ∀ ms,d ≠ .interface ms:=by
  unfold isIface at ht
  cases hh:C.P.underlying t with
  | none => rw [hh] at ht; cases ht
  | some d => exact ⟨d,rfl,fun ms e => by rw [hh,e] at ht; cases ht⟩
 obtain ⟨d,hd,hn⟩:=hu
 have hr:(Instr.makeInterface t a).run C.P w = .ok (.iface t a) w:=by
  unfold Instr.makeInterface
  rw [Sem.run_bind,run_underlying hd]
  cases d <;> first | rfl | exact absurd rfl (hn _)
 unfold ifaceV at h
 refine ⟨_,hr,?_⟩
 by_cases hc:x.isCell = true
 ·rw [if_pos hc] at h
  injection h with h
  subst h
  exact .iface t x a (by cases x <;> simp_all [V.isCell,V.cells?]) hx
 ·rw [if_neg hc] at h
  cases x <;> simp at h
  subst h
  exact .iface t _ a rfl hx
theorem ok_extract {x : V} {i : Nat} {a : Value} (hx : Rel σ K w x a) (h : extractV x i = some v) : ∃ z, (Instr.extract a i).run C.P w = .ok z w ∧ Rel σ K w v z := by
  cases hx with
  | tuple l cs hl hr =>
    simp only [extractV] at h
    have hlt:i < cs.size:=by rw [← hl]; exact (List.getElem?_eq_some_iff.1 h).1
    exact ⟨cs[i],by simp [Instr.extract,hlt],hr i v _ h (by simp [hlt])⟩
  | _ => simp [extractV] at h
theorem ok_pick {c x y:V} {a b d:Value} (hc:Rel σ K w c a) (hx:Rel σ K w x b) (hy:Rel σ K w y d) (h:pickV c x y = some v) :
  ∃ t,a = .bool t ∧ Rel σ K w v (if t then b else d):=by
 cases hc <;> simp [pickV] at h
 rename_i t
 subst h
 refine ⟨t,rfl,?_⟩
 cases t <;> simpa
theorem ok_indexS {t : TypeId} (ht : C.P.underlying t = some .string) {x i : V} {a b : Value} (hx : Rel σ K w x a) (hi : Rel σ K w i b) (h : indexS x i = some v) : ∃ z, (Instr.index t a b).run C.P w = .ok z w ∧ Rel σ K w v z := by
  cases hx with
  | str s =>
    cases hi with
    | int k n =>
      simp only [indexS] at h
      split at h
      · rename_i h0
        cases hb:s[n.toNat]? with
        | none => rw [hb] at h; simp at h
        | some u =>
          rw [hb] at h
          simp only [Option.bind_some,Option.some.injEq] at h
          subst h
          exact ⟨_,by simp only [Instr.index,asIntOf,Sem.run_bind,Sem.run_pure,Result.andThen_ok,run_underlying ht,if_pos h0,hb] <;> rfl,.int _ _⟩
      · cases h
    | _ => simp [indexS] at h
  | _ => simp [indexS] at h
theorem ok_part {t : TypeId} {ag : Bool} (ht : isAgg C.P t = some ag) {l : List V} {cs : Array Value} (hx : Rel σ K w (.agg l) (.agg cs)) (off : Nat)
    (h:(if ag then (if off + C.P.cellsOf t ≤ l.length then some (V.agg ((l.drop off).take (C.P.cellsOf t))) else none) else l[off]?) = some v) :
    ∃ z,(part t cs off).run C.P w = .ok z w ∧ Rel σ K w v z:=by
  cases hx with
  | agg l cs hl hc hr =>
    have hag:=run_isAgg ht w
    have hi : ∃ i, C.P.info? t = some i := by
      unfold isAgg at ht
      cases hu:C.P.underlying t with
      | none => rw [hu] at ht; cases ht
      | some d => exact info_of_under hu
    obtain ⟨i,hi⟩:=hi
    cases ag with
    | true =>
      simp only [if_true] at h
      split at h
      · rename_i hle
        injection h with h
        subst h
        refine ⟨.agg (cs.extract off (off + C.P.cellsOf t)),by simp [part,hag,run_sizeOf hi],.agg _ _ ?_ ?_ ?_⟩
        · simp; omega
        · intro a ha
          exact hc a (List.mem_of_mem_drop (List.mem_of_mem_take ha))
        · intro j a b ha hb
          rw [List.getElem?_take] at ha
          split at ha
          · rw [List.getElem?_drop] at ha
            refine hr (off + j) a b ha ?_
            rw [Array.getElem?_extract] at hb
            split at hb
            · exact hb
            · cases hb
          · cases ha
      · cases h
    | false =>
      simp only [Bool.false_eq_true,if_false] at h
      have hlt:off < cs.size:=by rw [← hl]; exact (List.getElem?_eq_some_iff.1 h).1
      exact ⟨cs[off],by simp [part,hag,hlt],hr off v _ h (by simp [hlt])⟩
theorem ok_field {s : TypeId} {fs : Array Field} {f : Nat} {fd : Field} {ag : Bool} (hs : C.P.underlying s = some (.struct fs)) (hf : fs[f]? = some fd) (ht : isAgg C.P fd.type = some ag) {x : V} {a : Value}
    (hx:Rel σ K w x a) (h:fieldV fd.offset (C.P.cellsOf fd.type) ag x = some v):∃ z,(Instr.field s a f).run C.P w = .ok z w ∧ Rel σ K w v z:=by
  cases x with
  | agg l =>
    cases hx with
    | agg l cs hl hc hr =>
      obtain ⟨z,h1,h2⟩:=ok_part ht (Rel.agg l cs hl hc hr) fd.offset h
      exact ⟨z,by simp [Instr.field,run_underlying hs,hf,asAgg,h1],h2⟩
  | _ => simp [fieldV] at h
theorem ok_indexA {t el : TypeId} {len : Nat} {ag : Bool} (ht : C.P.underlying t = some (.array len el)) (ha : isAgg C.P el = some ag) {x i : V} {a b : Value} (hx : Rel σ K w x a) (hi : Rel σ K w i b)
    (h:indexA len (C.P.cellsOf el) ag x i = some v):∃ z,(Instr.index t a b).run C.P w = .ok z w ∧ Rel σ K w v z:=by
  cases hi with
  | int k n =>
    cases x with
    | agg l =>
      cases hx with
      | agg l cs hl hc hr =>
        simp only [indexA] at h
        split at h
        · rename_i hh
          obtain ⟨z,h1,h2⟩:=ok_part ha (Rel.agg l cs hl hc hr) (n.toNat * C.P.cellsOf el) h
          have hinf : ∃ i, C.P.info? el = some i := by
            unfold isAgg at ha
            cases hu:C.P.underlying el with
            | none => rw [hu] at ha; cases ha
            | some d => exact info_of_under hu
          obtain ⟨inf,hinf⟩:=hinf
          exact ⟨z,by simp [Instr.index,asIntOf,run_underlying ht,hh.1,hh.2,run_sizeOf hinf,h1],h2⟩
        · cases h
    | _ => simp [indexA] at h
  | _ => cases x <;> simp [indexA] at h
end
end Go.Fv
namespace Go.Fv
open Go
section
variable {C:Cfg} {σ:Nat → Addr} {K:Ctx} {H H':Heap} {w:World} {v:V}
theorem eqCs_length : ∀ {ks : List Sc} {a b : List V} {t : Bool}, eqCs ks a b = some t → a.length = ks.length ∧ b.length = ks.length
  | [],[],[],_,_ => ⟨rfl,rfl⟩
  | k :: ks, x :: a, y :: b, t, h => by
    simp only [eqCs] at h
    cases e:eqC k x y with
    | none => rw [e] at h; simp at h
    | some p =>
      rw [e] at h
      simp only [Option.bind_some] at h
      cases e2:eqCs ks a b with
      | none => rw [e2] at h; simp at h
      | some q => simp [eqCs_length e2]
  | [],[],_ :: _,_,h => by simp [eqCs] at h
  | [],_ :: _,_,_,h => by simp [eqCs] at h
  | _ :: _,[],_,_,h => by simp [eqCs] at h
  | _ :: _,_ :: _,[],_,h => by simp [eqCs] at h
theorem eqCs_append : ∀ {ks ks' : List Sc} {a b : List V} {t : Bool}, eqCs (ks ++ ks') a b = some t →
    ∃ p q,eqCs ks (a.take ks.length) (b.take ks.length) = some p ∧ eqCs ks' (a.drop ks.length) (b.drop ks.length) = some q ∧ t = (p && q)
  | [],ks',a,b,t,h => ⟨true,t,by simp [eqCs],by simpa using h,by simp⟩
  | k :: ks,ks',[],b,t,h => by simp [eqCs] at h
  | k :: ks,ks',x :: a,[],t,h => by simp [eqCs] at h
  | k :: ks, ks', x :: a, y :: b, t, h => by
    simp only [List.cons_append,eqCs] at h
    cases e:eqC k x y with
    | none => rw [e] at h; simp at h
    | some p =>
      rw [e] at h
      simp only [Option.bind_some] at h
      cases e2:eqCs (ks ++ ks') a b with
      | none => rw [e2] at h; simp at h
      | some q =>
        rw [e2] at h
        simp only [Option.bind_some,Option.some.injEq] at h
        obtain ⟨r,s,h1,h2,h3⟩:=eqCs_append e2
        exact ⟨p && r,s,by simp [eqCs,e,h1],by simpa using h2,by rw [← h,h3,Bool.and_assoc]⟩
theorem eqC_bool {x y:V} {a b:Value} {t:Bool} (hx:Rel σ K w x a) (hy:Rel σ K w y b) (h:eqC .bool x y = some t):∃ p q,a = .bool p ∧ b = .bool q ∧ t = (p == q):=by
 cases hx <;> cases hy <;> simp [eqC] at h
 exact ⟨_,_,rfl,rfl,h.symm⟩
theorem eqC_int {x y:V} {a b:Value} {t:Bool} (hx:Rel σ K w x a) (hy:Rel σ K w y b) (h:eqC .int x y = some t):∃ k p q,a = .int k p ∧ b = .int k q ∧ t = (p == q):=by
 cases hx <;> cases hy <;> simp [eqC] at h
 obtain ⟨rfl,h⟩:=h
 exact ⟨_,_,_,rfl,rfl,h.symm⟩
theorem eqC_str {x y:V} {a b:Value} {t:Bool} (hx:Rel σ K w x a) (hy:Rel σ K w y b) (h:eqC .str x y = some t):∃ p q,a = .string p ∧ b = .string q ∧ t = (p.toList == q.toList):=by
 cases hx <;> cases hy <;> simp [eqC] at h
 exact ⟨_,_,rfl,rfl,h.symm⟩
def Rels (σ:Nat → Addr) (K:Ctx) (w:World) (l:List V) (xs:List Value):Prop :=
 l.length = xs.length ∧ ∀ (j:Nat) c x,l[j]? = some c → xs[j]? = some x → Rel σ K w c x
theorem Rels.drop {l:List V} {xs:List Value} (h:Rels σ K w l xs) (k:Nat):Rels σ K w (l.drop k) (xs.drop k) :=
 ⟨by simp [h.1],fun j c x hj hx => by rw [List.getElem?_drop] at hj hx; exact h.2 _ c x hj hx⟩
theorem Rels.take {l:List V} {xs:List Value} (h:Rels σ K w l xs) (k:Nat):Rels σ K w (l.take k) (xs.take k) :=
 ⟨by simp [h.1],fun j c x hj hx => by
  rw [List.getElem?_take] at hj hx
  split at hj
  ·rename_i hk; rw [if_pos hk] at hx; exact h.2 _ c x hj hx
  ·cases hj⟩
theorem Rels.one {x:V} {xs:List Value} (h:Rels σ K w [x] xs):∃ a,xs = [a] ∧ Rel σ K w x a:=by
 obtain ⟨h1,h2⟩:=h
 match xs,h1 with
 | [a],_ => exact ⟨a,rfl,h2 0 x a rfl rfl⟩
def aggDesc:TypeDesc → Bool
 | .struct _ | .array _ _ => true
 | _ => false
theorem isAgg_of {P:Program} {t:TypeId} {u:TypeDesc} (hu:P.underlying t = some u):Fv.isAgg P t = some (aggDesc u):=by
 unfold Fv.isAgg; rw [hu]; cases u <;> rfl
def valOf (P:Program) (t:TypeId) (xs:List Value):Value :=
 match Fv.isAgg P t with
 | some true => .agg xs.toArray
 | _ => xs.headD Go.undef
theorem valOf_agg {P:Program} {t:TypeId} (h:Fv.isAgg P t = some true) (xs:List Value):valOf P t xs = .agg xs.toArray:=by simp [valOf,h]
theorem valOf_one {P:Program} {t:TypeId} (h:Fv.isAgg P t = some false) (a:Value):valOf P t [a] = a:=by simp [valOf,h]
theorem run_part {P : Program} {t : TypeId} {ag : Bool} (ht : Fv.isAgg P t = some ag) (xs : List Value) (off : Nat) (hle : off + P.cellsOf t ≤ xs.length) (h1 : ag = false → P.cellsOf t = 1) :
    (part t xs.toArray off).run P w = .ok (valOf P t ((xs.drop off).take (P.cellsOf t))) w:=by
  have hi : ∃ i, P.info? t = some i := by
    unfold Fv.isAgg at ht
    cases hu:P.underlying t with
    | none => rw [hu] at ht; cases ht
    | some d => exact info_of_under hu
  obtain ⟨i,hi⟩:=hi
  cases ag with
  | true =>
    simp only [part,Sem.run_bind,run_isAgg ht,Result.andThen_ok,if_true,run_sizeOf hi,Sem.run_pure,valOf,ht]
    have hx : xs.toArray.extract off (off + P.cellsOf t) = ((xs.drop off).take (P.cellsOf t)).toArray := by
      apply Array.ext'
      rw [Array.toList_extract]
      show (xs.drop off).take (off + P.cellsOf t - off) = _
      rw [Nat.add_sub_cancel_left]
    rw [hx]
  | false =>
    have h1:=h1 rfl
    have hlt:off < xs.length:=by omega
    have:xs.drop off = xs[off] :: xs.drop (off + 1):=List.drop_eq_getElem_cons hlt
    rw [h1,this,List.take_succ_cons,List.take_zero,valOf_one ht]
    simp [part,run_isAgg ht,hlt]
theorem same_all (C : Cfg) (σ : Nat → Addr) (K : Ctx) (w : World) : ∀ (n : Nat) (t : TypeId) (ks : List Sc) (d : Nat), plainTy C.P n t = some ks → n ≤ d →
    ks.length = C.P.cellsOf t ∧ (∃ ag,Fv.isAgg C.P t = some ag ∧ (ag = false → C.P.cellsOf t = 1)) ∧
    ∀ (l m : List V) (xs ys : List Value) (b : Bool), Rels σ K w l xs → Rels σ K w m ys → eqCs ks l m = some b →
      (Op.equalIn d t (valOf C.P t xs) (valOf C.P t ys)).run C.P w = .ok b w
  | 0,t,ks,d,h,_ => by simp [plainTy] at h
  | n + 1,t,ks,0,h,hd => by omega
  | n + 1, t, ks, d + 1, h, hd => by
    have ih:=same_all C σ K w n
    have single : ∀ (k : Sc) (l m : List V) (xs ys : List Value) (b : Bool), Rels σ K w l xs → Rels σ K w m ys → eqCs [k] l m = some b → ∃ x y p q, eqC k x y = some b ∧ Rel σ K w x p ∧ Rel σ K w y q ∧ xs = [p] ∧ ys = [q] := by
      intro k l m xs ys b hx hy hb
      match l,m,hb with
      | [x], [y], hb =>
        obtain ⟨p,rfl,hp⟩:=hx.one
        obtain ⟨q,rfl,hq⟩:=hy.one
        refine ⟨x,y,p,q,?_,hp,hq,rfl,rfl⟩
        simp only [eqCs] at hb
        cases e:eqC k x y with
        | none => rw [e] at hb; simp at hb
        | some r => rw [e] at hb; simp at hb; rw [hb]
      | [],_,hb => simp [eqCs] at hb
      | [_],[],hb => simp [eqCs] at hb
      | [x],y :: z :: m,hb => cases e:eqC k x y <;> simp [eqCs,e] at hb
      | x :: z :: l,[],hb => simp [eqCs] at hb
      | x :: z :: l,[y],hb => cases e:eqC k x y <;> simp [eqCs,e] at hb
      | x :: z :: l,y :: u :: m,hb => cases e:eqC k x y <;> simp [eqCs,e] at hb
    cases hu:C.P.underlying t with
    | none => simp [plainTy,hu] at h
    | some u =>
      have hia:=isAgg_of hu
      cases u <;> simp only [plainTy,hu,reduceCtorEq] at h
      case bool =>
        split at h
        · rename_i hc
          injection h with h
          subst h
          refine ⟨by simp [hc],⟨false,hia,fun _ => hc⟩,fun l m xs ys b hx hy hb => ?_⟩
          obtain ⟨x,y,p,q,h1,h2,h3,rfl,rfl⟩:=single _ _ _ _ _ _ hx hy hb
          obtain ⟨p',q',rfl,rfl,rfl⟩:=eqC_bool h2 h3 h1
          rw [valOf_one hia,valOf_one hia]
          simp [Op.equalIn,run_underlying hu]
        · cases h
      case int k =>
        split at h
        · rename_i hc
          injection h with h
          subst h
          refine ⟨by simp [hc],⟨false,hia,fun _ => hc⟩,fun l m xs ys b hx hy hb => ?_⟩
          obtain ⟨x,y,p,q,h1,h2,h3,rfl,rfl⟩:=single _ _ _ _ _ _ hx hy hb
          obtain ⟨k',p',q',rfl,rfl,rfl⟩:=eqC_int h2 h3 h1
          rw [valOf_one hia,valOf_one hia]
          simp [Op.equalIn,run_underlying hu]
        · cases h
      case string =>
        split at h
        · rename_i hc
          injection h with h
          subst h
          refine ⟨by simp [hc],⟨false,hia,fun _ => hc⟩,fun l m xs ys b hx hy hb => ?_⟩
          obtain ⟨x,y,p,q,h1,h2,h3,rfl,rfl⟩:=single _ _ _ _ _ _ hx hy hb
          obtain ⟨p',q',rfl,rfl,rfl⟩:=eqC_str h2 h3 h1
          rw [valOf_one hia,valOf_one hia]
          simp [Op.equalIn,run_underlying hu,beq_toListBytes]
        · cases h
      case struct fs =>
        split at h
        · cases h
        · rename_i hp
          have fields : ∀ (fs : List Field) (off tot : Nat) (ks : List Sc), plainFs C.P (plainTy C.P n) fs off tot = some ks → off + ks.length = tot ∧
              ∀ (l m : List V) (xs ys : List Value) (b : Bool), Rels σ K w l xs → Rels σ K w m ys → off ≤ l.length → off ≤ m.length → eqCs ks (l.drop off) (m.drop off) = some b →
                (Op.eqFields d xs.toArray ys.toArray fs).run C.P w = .ok b w:=by
            intro fs
            induction fs with
            | nil =>
              intro off tot ks h
              simp only [plainFs] at h
              split at h
              · rename_i e
                injection h with h
                subst h
                refine ⟨by simpa using e,fun l m xs ys b hx hy _ _ hb => ?_⟩
                have : b = true := by
                  cases e1:l.drop off <;> cases e2:m.drop off <;> simp [e1,e2,eqCs] at hb
                  exact hb
                subst this
                rfl
              · cases h
            | cons f fs ihf =>
              intro off tot ks h
              simp only [plainFs] at h
              split at h
              · cases h
              · rename_i hn
                have hn1 : f.name ≠ "_" := fun e => hn (.inl e)
                have hn2:f.offset = off:=Classical.byContradiction fun e => hn (.inr e)
                cases ha:plainTy C.P n f.type with
                | none => rw [ha] at h; simp at h
                | some a =>
                  rw [ha] at h
                  simp only [Option.bind_some] at h
                  cases hb':plainFs C.P (plainTy C.P n) fs (off + C.P.cellsOf f.type) tot with
                  | none => rw [hb'] at h; simp at h
                  | some b' =>
                    rw [hb'] at h
                    simp only [Option.bind_some,Option.some.injEq] at h
                    subst h
                    obtain ⟨g1,⟨ag,g2,g3⟩,g4⟩:=ih f.type a d ha (by omega)
                    obtain ⟨f1,f2⟩:=ihf _ _ _ hb'
                    refine ⟨by rw [List.length_append]; omega,fun l m xs ys b hx hy hol hom hb => ?_⟩
                    have hlen:=eqCs_length hb
                    simp only [List.length_drop,List.length_append] at hlen
                    obtain ⟨p,q,e1,e2,rfl⟩:=eqCs_append hb
                    rw [g1] at e1 e2
                    rw [List.drop_drop,List.drop_drop] at e2
                    have q1:=run_part (w:=w) g2 xs off (by rw [← hx.1]; omega) g3
                    have q2:=run_part (w:=w) g2 ys off (by rw [← hy.1]; omega) g3
                    have q3:=g4 _ _ _ _ p ((hx.drop off).take _) ((hy.drop off).take _) e1
                    have q4:=f2 l m xs ys q hx hy (by omega) (by omega) e2
                    simp only [Op.eqFields,if_pos hn1,Sem.run_bind,hn2,q1,q2,q3,Result.andThen_ok,Sem.run_ite]
                    cases p
                    · simp
                    · simpa using q4
          obtain ⟨f1,f2⟩:=fields fs.toList 0 _ ks h
          refine ⟨by simpa using f1,⟨true,hia,fun e => by cases e⟩,fun l m xs ys b hx hy hb => ?_⟩
          have hf:C.P.fieldsOf t = fs:=by simp [Program.fieldsOf,hu]
          have:=f2 l m xs ys b hx hy (Nat.zero_le _) (Nat.zero_le _) (by simpa using hb)
          rw [valOf_agg hia,valOf_agg hia]
          rw [run_equalIn_struct w d t xs.toArray ys.toArray (by rw [hf]; exact hu) (by simpa using hp),hf]
          exact this
      case array len e =>
        cases ha:plainTy C.P n e with
        | none => rw [ha] at h; simp at h
        | some a =>
          rw [ha] at h
          simp only [Option.bind_some] at h
          split at h
          · rename_i hh
            obtain ⟨hc,hal⟩:=hh
            injection h with h
            subst h
            obtain ⟨g1,⟨ag,g2,g3⟩,g4⟩:=ih e a d ha (by omega)
            have hi : ∃ i, C.P.info? e = some i := by
              unfold Fv.isAgg at g2
              cases hu:C.P.underlying e with
              | none => rw [hu] at g2; cases g2
              | some d => exact info_of_under hu
            obtain ⟨i,hi⟩:=hi
            have hkl : (List.replicate len a).flatten.length = len * C.P.cellsOf e := by
              rw [flatten_length (sz:=a.length) _ (fun r hr => by rw [List.eq_of_mem_replicate hr])]; simp [hal]
            refine ⟨by rw [hkl,hc],⟨true,hia,fun e => by cases e⟩,fun l m xs ys b hx hy hb => ?_⟩
            rw [valOf_agg hia,valOf_agg hia]
            have rounds : ∀ (k j : Nat) (b : Bool), j * C.P.cellsOf e ≤ l.length → j * C.P.cellsOf e ≤ m.length → eqCs (List.replicate k a).flatten (l.drop (j * C.P.cellsOf e)) (m.drop (j * C.P.cellsOf e)) = some b →
                (do for i in List.range' j k 1 do
                      if !(← Op.equalIn d e (← part e xs.toArray (i * C.P.cellsOf e)) (← part e ys.toArray (i * C.P.cellsOf e))) then return false
                    pure true:Sem Bool).run C.P w = .ok b w:=by
              intro k
              induction k with
              | zero =>
                intro j b _ _ hb
                have : b = true := by
                  cases e1:l.drop (j * C.P.cellsOf e) <;> cases e2:m.drop (j * C.P.cellsOf e) <;> simp [e1,e2,eqCs] at hb
                  exact hb
                subst this
                simp
              | succ k ihk =>
                intro j b hjl hjm hb
                rw [List.replicate_succ,List.flatten_cons] at hb
                have hlen:=eqCs_length hb
                simp only [List.length_drop,List.length_append] at hlen
                obtain ⟨p,q,e1,e2,rfl⟩:=eqCs_append hb
                rw [g1] at e1 e2
                rw [List.drop_drop,List.drop_drop] at e2
                have q1:=run_part (w:=w) g2 xs (j * C.P.cellsOf e) (by rw [← hx.1]; omega) g3
                have q2:=run_part (w:=w) g2 ys (j * C.P.cellsOf e) (by rw [← hy.1]; omega) g3
                have q3:=g4 _ _ _ _ p ((hx.drop (j * C.P.cellsOf e)).take _) ((hy.drop (j * C.P.cellsOf e)).take _) e1
                have q4:=ihk (j + 1) q (by rw [Nat.succ_mul]; omega) (by rw [Nat.succ_mul]; omega) (by rw [Nat.succ_mul]; exact e2)
                rw [List.range'_succ,List.forIn_cons]
                simp only [Sem.run_bind,q1,q2,q3,Result.andThen_ok,Sem.run_ite]
                cases p
                · simp
                · simpa using q4
            have:=rounds len 0 b (by simp) (by simp) (by simpa using hb)
            simp only [Op.equalIn,Sem.run_bind,run_underlying hu,Result.andThen_ok,run_sizeOf hi]
            simp only [Std.Legacy.Range.forIn_eq_forIn_range',Std.Legacy.Range.size,Nat.sub_zero,Nat.add_sub_cancel,Nat.div_one]
            simp only [Sem.run_bind] at this ⊢
            exact this
          · cases h
def EqOk (P:Program) (w:World) (t:TypeId) (p q:Operand) (a b:Value) (r:Bool):Prop :=
 (do eqGuard .eql t p q a b; binOp .eql t a b:Sem Value).run P w = .ok (.bool r) w ∧ (do eqGuard .neq t p q a b; binOp .neq t a b:Sem Value).run P w = .ok (.bool !r) w
theorem eq_ptr {P:Program} {t el:TypeId} (hu:P.underlying t = some (.pointer el)) (w:World) (d:Nat) (b:Option Addr) :
  (Op.equalIn (d + 1) t (.pointer none) (.pointer b)).run P w = .ok b.isNone w ∧ (Op.equalIn (d + 1) t (.pointer b) (.pointer none)).run P w = .ok b.isNone w:=by
 cases b <;> simp [Op.equalIn,run_underlying hu]
theorem eq_slice {P:Program} {t el:TypeId} (hu:P.underlying t = some (.slice el)) (w:World) (d:Nat) (b:Option Addr) (n c:Nat) :
  (Op.equalIn (d + 1) t (.slice none 0 0) (.slice b n c)).run P w = .ok b.isNone w ∧ (Op.equalIn (d + 1) t (.slice b n c) (.slice none 0 0)).run P w = .ok b.isNone w:=by
 cases b <;> simp [Op.equalIn,run_underlying hu]
theorem eq_iface {P:Program} {t:TypeId} {ms:Array (String × TypeId)} (hu:P.underlying t = some (.interface ms)) (w:World) (d:Nat) (u:TypeId) (z:Value) :
  (Op.equalIn (d + 1) t .nilIface .nilIface).run P w = .ok true w ∧ (Op.equalIn (d + 1) t .nilIface (.iface u z)).run P w = .ok false w ∧ (Op.equalIn (d + 1) t (.iface u z) .nilIface).run P w = .ok false w:=by
 simp [Op.equalIn,run_underlying hu]
theorem eq_func {P:Program} {t:TypeId} {ps rs:Array TypeId} {vr:Bool} (hu:P.underlying t = some (.func ps rs vr)) (w:World) (d:Nat) (f:Fn) (x y:Array Value) :
  (Op.equalIn (d + 1) t .nilFunc .nilFunc).run P w = .ok true w ∧ (Op.equalIn (d + 1) t .nilFunc (.func f x y)).run P w = .ok false w ∧ (Op.equalIn (d + 1) t (.func f x y) .nilFunc).run P w = .ok false w:=by
 simp [Op.equalIn,run_underlying hu]
theorem EqOk.of {P:Program} {t:TypeId} {p q:Operand} {a b:Value} {r:Bool} (he:(Op.equalIn (9999 + 1) t a b).run P w = .ok r w) (hg:∀ op,(eqGuard op t p q a b).run P w = .ok () w)
  (hb:∀ op,op = .eql ∨ op = .neq → binOp op t a b = (if op = .eql then (do pure (.bool (← Op.equal t a b))) else (do pure (.bool (!(← Op.equal t a b)))))):EqOk P w t p q a b r:=by
 have he':(Op.equal t a b).run P w = .ok r w:=he
 exact ⟨by simp [hg,hb .eql (.inl rfl),he'],by simp [hg,hb .neq (.inr rfl),he']⟩
theorem ok_eq_ptr {t el:TypeId} (hu:C.P.underlying t = some (.pointer el)) {c:Bool} {p q:Operand} {x y:V} {a b:Value} (hx:Rel σ K w x a) (hy:Rel σ K w y b) {r:Bool} (h:eqV .ptr c x y = some r):EqOk C.P w t p q a b r:=by
 have nn:∀ b':Option Addr,EqOk C.P w t p q (.pointer none) (.pointer b') b'.isNone:=fun b' => .of (eq_ptr hu w 9999 b').1 (fun op => by cases op <;> rfl) (fun op ho => by rcases ho with rfl | rfl <;> rfl)
 have sn:∀ b':Option Addr,EqOk C.P w t p q (.pointer b') (.pointer none) b'.isNone:=fun b' => .of (eq_ptr hu w 9999 b').2 (fun op => by cases op <;> rfl) (fun op ho => by rcases ho with rfl | rfl <;> rfl)
 cases hx <;> cases hy <;> simp only [eqV,reduceCtorEq,Option.some.injEq] at h <;> subst h <;> first | exact nn none | exact nn (some _) | exact sn (some _)
theorem ok_eq_slice {t el:TypeId} (hu:C.P.underlying t = some (.slice el)) {c:Bool} {p q:Operand} {x y:V} {a b:Value} (hx:Rel σ K w x a) (hy:Rel σ K w y b) {r:Bool} (h:eqV .slice c x y = some r):EqOk C.P w t p q a b r:=by
 have nn:∀ (b':Option Addr) n c',EqOk C.P w t p q (.slice none 0 0) (.slice b' n c') b'.isNone:=fun b' n c' => .of (eq_slice hu w 9999 b' n c').1 (fun op => by cases op <;> rfl) (fun op ho => by rcases ho with rfl | rfl <;> rfl)
 have sn:∀ (b':Option Addr) n c',EqOk C.P w t p q (.slice b' n c') (.slice none 0 0) b'.isNone:=fun b' n c' => .of (eq_slice hu w 9999 b' n c').2 (fun op => by cases op <;> rfl) (fun op ho => by rcases ho with rfl | rfl <;> rfl)
 cases hx <;> cases hy <;> simp only [eqV,V.isNilS,reduceCtorEq,Option.some.injEq] at h <;> subst h <;> first | exact nn none 0 0 | exact nn (some _) _ _ | exact sn (some _) _ _
theorem ok_eq_iface {t : TypeId} {ms : Array (String × TypeId)} (hu : C.P.underlying t = some (.interface ms)) {c : Bool} {p q : Operand} (hc : c = true → (isConst p || isConst q) = true) {x y : V} {a b : Value} (hx : Rel σ K w x a) (hy : Rel σ K w y b) {r : Bool} (h : eqV .iface c x y = some r) : EqOk C.P w t p q a b r := by
  have n1:∀ u z,EqOk C.P w t p q .nilIface (.iface u z) false:=fun u z => .of (eq_iface hu w 9999 u z).2.1 (fun op => by cases op <;> rfl) (fun op ho => by rcases ho with rfl | rfl <;> rfl)
  have n2:∀ u z,EqOk C.P w t p q (.iface u z) .nilIface false:=fun u z => .of (eq_iface hu w 9999 u z).2.2 (fun op => by cases op <;> rfl) (fun op ho => by rcases ho with rfl | rfl <;> rfl)
  cases hx <;> cases hy <;> simp only [eqV, reduceCtorEq, Option.some.injEq] at h <;> first
    | (subst h; exact n1 _ _)
    | (subst h; exact n2 _ _)
    | (split at h
       · rename_i hc'
         injection h with h
         subst h
         have hk:=hc hc'
         refine .of (eq_iface hu w 9999 0 .nilIface).1 (fun op => ?_) (fun op ho => by rcases ho with rfl | rfl <;> rfl)
         cases p <;> cases q <;> simp [isConst] at hk <;> cases op <;> simp [eqGuard]
       · cases h)
theorem ok_eq_func {t:TypeId} {ps rs:Array TypeId} {vr:Bool} (hu:C.P.underlying t = some (.func ps rs vr)) {c:Bool} {p q:Operand} {x y:V} {a b:Value} (hx:Rel σ K w x a) (hy:Rel σ K w y b) {r:Bool} (h:eqV .func c x y = some r):EqOk C.P w t p q a b r:=by
 have n0:EqOk C.P w t p q .nilFunc .nilFunc true:=.of (eq_func hu w 9999 (.func 0) #[] #[]).1 (fun op => by cases op <;> rfl) (fun op ho => by rcases ho with rfl | rfl <;> rfl)
 have n1:∀ f u z,EqOk C.P w t p q .nilFunc (.func f u z) false:=fun f u z => .of (eq_func hu w 9999 f u z).2.1 (fun op => by cases op <;> rfl) (fun op ho => by rcases ho with rfl | rfl <;> rfl)
 have n2:∀ f u z,EqOk C.P w t p q (.func f u z) .nilFunc false:=fun f u z => .of (eq_func hu w 9999 f u z).2.2 (fun op => by cases op <;> rfl) (fun op ho => by rcases ho with rfl | rfl <;> rfl)
 cases hx <;> cases hy <;> simp only [eqV,reduceCtorEq,Option.some.injEq] at h <;> subst h <;> first | exact n0 | exact n1 _ _ _ | exact n2 _ _ _
theorem ok_eq_agg {t : TypeId} {u : TypeDesc} (hu : C.P.underlying t = some u) (hag : aggDesc u = true) {ks : List Sc} (hk : plainTy C.P 8 t = some ks) (hg : C.P.eqGuardType C.P.depth t = false) {c : Bool} {p q : Operand} {x y : V} {a b : Value} (hx : Rel σ K w x a) (hy : Rel σ K w y b) {r : Bool} (h : eqV (.agg ks) c x y = some r) : EqOk C.P w t p q a b r := by
  cases x <;> cases y <;> simp only [eqV,reduceCtorEq] at h
  rename_i l m
  cases hx with
  | agg _ xs hl hc hr =>
    cases hy with
    | agg _ ys hl' hc' hr' =>
      obtain ⟨_,⟨ag,g1,_⟩,g2⟩:=same_all C σ K w 8 t ks (9999 + 1) hk (by omega)
      have hia:=isAgg_of hu
      rw [hag] at hia
      have:=g2 l m xs.toList ys.toList r ⟨by simpa using hl,fun j c x hj hx => hr j c x hj (by simpa using hx)⟩ ⟨by simpa using hl',fun j c x hj hx => hr' j c x hj (by simpa using hx)⟩ h
      rw [valOf_agg hia,valOf_agg hia] at this
      exact .of this (fun op => run_eqGuard_agg w op t p q xs ys hg) (fun op ho => by rcases ho with rfl | rfl <;> rfl)
theorem ok_eq {t : TypeId} {T : EqT} (hT : eqTy C.P t = some T) {c : Bool} {p q : Operand} (hc : c = true → (isConst p || isConst q) = true) {x y : V} {a b : Value} (hx : Rel σ K w x a) (hy : Rel σ K w y b) {r : Bool}
    (h:eqV T c x y = some r):EqOk C.P w t p q a b r:=by
  cases hu:C.P.underlying t with
  | none => simp [eqTy,hu] at hT
  | some u =>
    cases u <;> simp only [eqTy,hu,reduceCtorEq] at hT
    case bool =>
      injection hT with hT; subst hT
      obtain ⟨p',q',rfl,rfl,rfl⟩:=eqC_bool hx hy h
      exact .of (run_equalIn_bool w 9999 t p' q' hu) (fun op => by cases op <;> rfl) (fun op ho => by rcases ho with rfl | rfl <;> rfl)
    case int k =>
      injection hT with hT; subst hT
      obtain ⟨k',p',q',rfl,rfl,rfl⟩:=eqC_int hx hy h
      exact ⟨by simp [eqGuard,binOp,Op.intCmp],by simp [eqGuard,binOp,Op.intCmp,bne]⟩
    case string =>
      injection hT with hT; subst hT
      obtain ⟨p',q',rfl,rfl,rfl⟩:=eqC_str hx hy h
      exact ⟨by simp [eqGuard,binOp,Op.stringOp],by simp [eqGuard,binOp,Op.stringOp]⟩
    case pointer el => injection hT with hT; subst hT; exact ok_eq_ptr hu hx hy h
    case slice el => injection hT with hT; subst hT; exact ok_eq_slice hu hx hy h
    case interface ms => injection hT with hT; subst hT; exact ok_eq_iface hu hc hx hy h
    case func ps rs vr => injection hT with hT; subst hT; exact ok_eq_func hu hx hy h
    all_goals
      split at hT
      · cases hT
      · rename_i hg
        cases hk:plainTy C.P 8 t with
        | none => rw [hk] at hT; simp at hT
        | some ks =>
          rw [hk] at hT
          simp only [Option.bind_some,Option.some.injEq] at hT
          subst hT
          exact ok_eq_agg hu rfl hk (by simpa using hg) hx hy h
end
end Go.Fv
