/-
  Rows of cells, flat. By an AI agent; no person has read it.
-/
import Derived.Test.YtekncgjkocgioaaGreatDoorFvP02
set_option linter.unusedVariables false
set_option linter.unusedSimpArgs false
set_option linter.unusedSectionVars false
/-! Rows of cells, flat. -/
namespace Go.Fv
open Go
theorem flatten_get {α : Type} {sz : Nat} : ∀ (rows : List (List α)), (∀ r ∈ rows, r.length = sz) → ∀ (i j : Nat), j < sz → rows.flatten[i * sz + j]? = (rows[i]?).bind fun r => r[j]?
  | [],_,i,j,_ => by simp
  | r :: rows, h, 0, j, hj => by
    have hr:=h r (by simp)
    simp [List.getElem?_append,hr,hj]
  | r :: rows, h, i + 1, j, hj => by
    have hr:=h r (by simp)
    have ih:=flatten_get rows (fun r hr => h r (by simp [hr])) i j hj
    rw [List.flatten_cons,List.getElem?_append_right (by rw [hr,Nat.succ_mul]; omega),hr,show (i + 1) * sz + j - sz = i * sz + j by rw [Nat.succ_mul]; omega,ih]
    simp
theorem flatten_length {α : Type} {sz : Nat} : ∀ (rows : List (List α)), (∀ r ∈ rows, r.length = sz) → rows.flatten.length = rows.length * sz
  | [],_ => by simp
  | r :: rows, h => by
    have ih:=flatten_length rows (fun r hr => h r (by simp [hr]))
    rw [List.flatten_cons,List.length_append,ih,h r (by simp),List.length_cons,Nat.succ_mul]; omega
theorem flatten_take {α : Type} {sz : Nat} : ∀ (rows : List (List α)), (∀ r ∈ rows, r.length = sz) → ∀ k, (rows.take k).flatten = rows.flatten.take (k * sz)
  | _,_,0 => by simp
  | [],_,k + 1 => by simp
  | r :: rows, h, k + 1 => by
    have ih:=flatten_take rows (fun r hr => h r (by simp [hr])) k
    have hr:=h r (by simp)
    rw [List.take_succ_cons,List.flatten_cons,List.flatten_cons,ih,List.take_append,hr,show (k + 1) * sz - sz = k * sz by rw [Nat.succ_mul]; omega,List.take_of_length_le (l:=r) (by rw [hr,Nat.succ_mul]; omega)]
theorem flatten_drop {α : Type} {sz : Nat} : ∀ (rows : List (List α)), (∀ r ∈ rows, r.length = sz) → ∀ k, (rows.drop k).flatten = rows.flatten.drop (k * sz)
  | _,_,0 => by simp
  | [],_,k + 1 => by simp
  | r :: rows, h, k + 1 => by
    have ih:=flatten_drop rows (fun r hr => h r (by simp [hr])) k
    have hr:=h r (by simp)
    rw [List.drop_succ_cons,List.flatten_cons,ih,List.drop_append,hr,show (k + 1) * sz - sz = k * sz by rw [Nat.succ_mul]; omega,List.drop_of_length_le (l:=r) (by rw [hr,Nat.succ_mul]; omega),List.nil_append]
theorem flatten_set {α : Type} {sz : Nat} : ∀ (rows : List (List α)), (∀ r ∈ rows, r.length = sz) → ∀ (i : Nat) (r' : List α), i < rows.length →
    (rows.set i r').flatten = rows.flatten.take (i * sz) ++ r' ++ rows.flatten.drop (i * sz + sz)
  | [],_,i,r',hi => by simp at hi
  | r :: rows, h, 0, r', _ => by
    have hr:=h r (by simp)
    simp [List.drop_append,hr,List.drop_of_length_le (l:=r) (i:=sz) (by omega)]
  | r :: rows, h, i + 1, r', hi => by
    have hr:=h r (by simp)
    have ih:=flatten_set rows (fun r hr => h r (by simp [hr])) i r' (by simpa using hi)
    rw [List.set_cons_succ, List.flatten_cons, ih, List.flatten_cons, List.take_append, List.drop_append, hr,
      List.take_of_length_le (l:=r) (by rw [hr,Nat.succ_mul]; omega),List.drop_of_length_le (l:=r) (by rw [hr,Nat.succ_mul]; omega),
      show (i + 1) * sz - sz = i * sz by rw [Nat.succ_mul]; omega,show (i + 1) * sz + sz - sz = i * sz + sz by rw [Nat.succ_mul]; omega]
    simp
theorem flatten_splice {α:Type} {sz:Nat} (rows:List (List α)) (hs:∀ r ∈ rows,r.length = sz) (i o:Nat) (r cs:List α) (hr:rows[i]? = some r) (hle:o + cs.length ≤ r.length) :
  (rows.set i (r.take o ++ cs ++ r.drop (o + cs.length))).flatten = rows.flatten.take (i * sz + o) ++ cs ++ rows.flatten.drop (i * sz + o + cs.length):=by
 have hi:i < rows.length:=(List.getElem?_eq_some_iff.1 hr).1
 have hrl:=hs r (List.mem_of_getElem? hr)
 have hfl:=flatten_length rows hs
 have hmul:i * sz + sz ≤ rows.length * sz:=by
  have:(i + 1) * sz ≤ rows.length * sz:=Nat.mul_le_mul_right _ hi
  rwa [Nat.succ_mul] at this
 have h1:=flatten_set rows hs i r hi
 have h2:rows.set i r = rows:=by
  apply List.ext_getElem?
  intro k
  rw [List.getElem?_set]
  by_cases e:i = k
  ·subst e; rw [if_pos rfl,if_pos hi]; exact hr.symm
  ·rw [if_neg e]
 rw [h2] at h1
 rw [flatten_set rows hs i _ hi]
 have hA:(rows.flatten.take (i * sz)).length = i * sz:=by rw [List.length_take]; omega
 generalize hAe:rows.flatten.take (i * sz) = A at *
 generalize hBe:rows.flatten.drop (i * sz + sz) = B at *
 have t1:(A ++ r ++ B).take (i * sz + o) = A ++ r.take o:=by
  rw [List.append_assoc,List.take_append,hA,show i * sz + o - i * sz = o by omega,List.take_of_length_le (l:=A) (by omega),List.take_append,show o - r.length = 0 by omega]
  simp
 have t2:(A ++ r ++ B).drop (i * sz + o + cs.length) = r.drop (o + cs.length) ++ B:=by
  rw [List.append_assoc,List.drop_append,hA,show i * sz + o + cs.length - i * sz = o + cs.length by omega,List.drop_of_length_le (l:=A) (by omega),List.drop_append,show o + cs.length - r.length = 0 by omega]
  simp
 rw [h1,t1,t2]
 simp
def CellsAt (σ:Nat → Addr) (K:Ctx) (w:World) (f:Nat → Option Value) (base:Nat) (l:List V):Prop :=
 ∀ (j:Nat) c,l[j]? = some c → c.isCell = true ∧ ∃ x,f (base + j) = some x ∧ Rel σ K w c x
section
variable {σ:Nat → Addr} {K:Ctx} {w:World} {f g:Nat → Option Value} {base:Nat} {l l':List V}
theorem CellsAt.nil:CellsAt σ K w f base []:=fun j c h => by simp at h
theorem CellsAt.take (h:CellsAt σ K w f base l) (k:Nat):CellsAt σ K w f base (l.take k):=fun j c hj => by
 rw [List.getElem?_take] at hj
 split at hj
 ·exact h j c hj
 ·cases hj
theorem CellsAt.drop (h:CellsAt σ K w f base l) (k:Nat):CellsAt σ K w f (base + k) (l.drop k):=fun j c hj => by
 rw [List.getElem?_drop] at hj
 rw [Nat.add_assoc]
 exact h _ c hj
theorem CellsAt.append (h:CellsAt σ K w f base l) (h':CellsAt σ K w f (base + l.length) l'):CellsAt σ K w f base (l ++ l'):=fun j c hj => by
 by_cases hlt:j < l.length
 ·rw [List.getElem?_append_left hlt] at hj
  exact h j c hj
 ·rw [List.getElem?_append_right (by omega)] at hj
  have:=h' _ c hj
  rwa [show base + l.length + (j - l.length) = base + j by omega] at this
theorem CellsAt.congr (h:CellsAt σ K w f base l) (hfg:∀ j,j < l.length → g (base + j) = f (base + j)):CellsAt σ K w g base l:=fun j c hj => by
 have hlt:j < l.length:=(List.getElem?_eq_some_iff.1 hj).1
 rw [hfg j hlt]
 exact h j c hj
theorem CellsAt.cell (h:CellsAt σ K w f base l):∀ c ∈ l,c.isCell = true:=fun c hc => by
 obtain ⟨j,hj⟩:=List.getElem?_of_mem hc
 exact (h j c hj).1
theorem CellsAt.mono {K':Ctx} {w':World} (h:CellsAt σ K w f base l) (m:Moves K K' w w'):CellsAt σ K' w' f base l:=fun j c hj => by
 obtain ⟨h1,x,h2,h3⟩:=h j c hj
 exact ⟨h1,x,h2,h3.mono m⟩
theorem rows_flat {sz : Nat} {rows : List (List V)} (hs : ∀ r ∈ rows, r.length = sz) :
    (∀ (i:Nat) r (j:Nat) c,rows[i]? = some r → r[j]? = some c → c.isCell = true ∧ ∃ x,f (base + i * sz + j) = some x ∧ Rel σ K w c x) ↔ CellsAt σ K w f base rows.flatten:=by
  constructor
  · intro h k c hk
    have hlt:k < rows.flatten.length:=(List.getElem?_eq_some_iff.1 hk).1
    rw [flatten_length rows hs] at hlt
    have hsz : 0 < sz := by
      rcases Nat.eq_zero_or_pos sz with e | e
      · rw [e] at hlt; simp at hlt
      · exact e
    have e:k / sz * sz + k % sz = k:=Nat.div_add_mod' k sz
    have:=flatten_get rows hs (k / sz) (k % sz) (Nat.mod_lt _ hsz)
    rw [e,hk] at this
    cases hr:rows[k / sz]? with
    | none => rw [hr] at this; cases this
    | some r =>
      rw [hr] at this
      have hh:=h (k / sz) r (k % sz) c hr this.symm
      rwa [Nat.add_assoc,e] at hh
  · intro h i r j c hi hj
    have hr:=hs r (List.mem_of_getElem? hi)
    have hlt:j < sz:=by rw [← hr]; exact (List.getElem?_eq_some_iff.1 hj).1
    have:=h (i * sz + j) c (by rw [flatten_get rows hs i j hlt,hi]; exact hj)
    rwa [← Nat.add_assoc] at this
theorem CellsAt.vals (h : CellsAt σ K w f base l) : ∃ xs : List Value, xs.length = l.length ∧ (∀ (j : Nat) x, xs[j]? = some x → f (base + j) = some x) ∧
    (∀ (j:Nat) c x,l[j]? = some c → xs[j]? = some x → Rel σ K w c x) ∧ (∀ x ∈ xs,x.oneCell' = true):=by
  induction l generalizing base with
  | nil => exact ⟨[],rfl,fun j x h => by simp at h,fun j c x h => by simp at h,fun x h => by simp at h⟩
  | cons a l ih =>
    obtain ⟨h1,x,h2,h3⟩:=h 0 a rfl
    have ht : CellsAt σ K w f (base + 1) l := fun j c hj => by
      have:=h (j + 1) c (by simpa using hj)
      rwa [show base + (j + 1) = base + 1 + j by omega] at this
    obtain ⟨xs,e1,e2,e3,e4⟩:=ih ht
    refine ⟨x :: xs,by simp [e1],?_,?_,?_⟩
    · intro j y hj
      cases j with
      | zero => simp at hj; subst hj; exact h2
      | succ j => simp at hj; have:=e2 j y hj; rwa [show base + 1 + j = base + (j + 1) by omega] at this
    · intro j c y hj hy
      cases j with
      | zero => simp at hj hy; subst hj; subst hy; exact h3
      | succ j => simp at hj hy; exact e3 j c y hj hy
    · intro y hy
      simp at hy
      rcases hy with rfl | hy
      · exact h3.oneCell h1
      · exact e4 y hy
end
theorem splice_get {α:Type} (l vs:List α) (o k:Nat) (h:o + vs.length ≤ l.length) :
  (l.take o ++ vs ++ l.drop (o + vs.length))[k]? = if k < o then l[k]? else if k < o + vs.length then vs[k - o]? else l[k]?:=by
 have ht:(l.take o).length = o:=by rw [List.length_take]; omega
 by_cases h1:k < o
 ·rw [if_pos h1,List.append_assoc,List.getElem?_append_left (by omega),List.getElem?_take,if_pos h1]
 ·rw [if_neg h1]
  by_cases h2:k < o + vs.length
  ·rw [if_pos h2,List.append_assoc,List.getElem?_append_right (by omega),ht,List.getElem?_append_left (by omega)]
  ·rw [if_neg h2,List.getElem?_append_right (by simp [ht]; omega),List.getElem?_drop]
   congr 1
   simp [ht]
   omega
section
variable {σ:Nat → Addr} {K:Ctx} {w:World} {base:Nat} {l:List V}
theorem CellsAt.splice {cs:List Value} (h:CellsAt σ K w (fun k => cs[k]?) base l) {new:List V} {vs:List Value} (o:Nat) (hl:o + new.length ≤ l.length) (hlen:vs.length = new.length)
  (hb:base + l.length ≤ cs.length) (hnew:∀ c ∈ new,c.isCell = true) (hr:∀ (j:Nat) c x,new[j]? = some c → vs[j]? = some x → Rel σ K w c x) :
  CellsAt σ K w (fun k => (cs.take (base + o) ++ vs ++ cs.drop (base + o + vs.length))[k]?) base (l.take o ++ new ++ l.drop (o + new.length)):=by
 intro j c hj
 rw [splice_get _ _ _ _ hl] at hj
 have hs:=splice_get cs vs (base + o) (base + j) (by omega)
 simp only [hs]
 by_cases h1:j < o
 ·rw [if_pos h1] at hj
  rw [if_pos (by omega)]
  exact h j c hj
 ·rw [if_neg h1] at hj
  rw [if_neg (by omega)]
  by_cases h2:j < o + new.length
  ·rw [if_pos h2] at hj
   rw [if_pos (by omega),show base + j - (base + o) = j - o by omega]
   have hx:j - o < vs.length:=by omega
   exact ⟨hnew c (List.mem_of_getElem? hj),vs[j - o],List.getElem?_eq_getElem hx,hr (j - o) c _ hj (List.getElem?_eq_getElem hx)⟩
  ·rw [if_neg h2] at hj
   rw [if_neg (by omega)]
   exact h j c hj
end
theorem BlkAt.flat {σ:Nat → Addr} {K:Ctx} {w:World} {l:Nat} {b:Blk} (h:BlkAt σ K w l b) (hm:¬ tagM (K.ρ l)) :
  ∃ cs e,Lies w (K.ρ l).1 cs e ∧ (K.ρ l).2.1 + b.rows.length * b.sz ≤ cs.size ∧ CellsAt σ K w (fun k => cs.toList[k]?) (K.ρ l).2.1 b.rows.flatten:=by
 obtain ⟨cs,e,h1,h2,h3⟩:=h.at' hm
 exact ⟨cs,e,h1,h2,(rows_flat (h.rows' hm)).1 (by simpa using h3)⟩
theorem run_storeCells_lies {P : Program} (g o : Nat) (t : TypeId) : ∀ (vs : List Value) (i : Nat) (cur : Array Value) (w : World), Lies w g cur t → o + i + vs.length ≤ cur.size → (∀ v ∈ vs, v.oneCell' = true) →
    (storeCells ⟨g,o,none⟩ vs i).run P w = .ok () (w.setRow g (cur.toList.take (o + i) ++ vs ++ cur.toList.drop (o + i + vs.length)).toArray)
  | [], i, cur, w, hg, _, _ => by
    obtain ⟨f,hf⟩:=hg.row
    simp only [storeCells,List.append_nil,List.length_nil,Nat.add_zero,List.take_append_drop,Array.toArray_toList]
    rw [setRow_self w g cur t f hf]
    rfl
  | v :: rest, i, cur, w, hg, hl, h1 => by
    have hi:o + i < cur.size:=by simp at hl; omega
    have hadd:(⟨g,o,none⟩:Addr).add i = ⟨g,o + i,none⟩:=by unfold Addr.add; split <;> simp_all
    have hcell:w.cell? ⟨g,o + i,none⟩ = some cur[o + i]:=by rw [hg.cell]; simp [hi]
    have hfro : w.frozen? ⟨g, o + i, none⟩ = false := by
      obtain ⟨f,hf,hor⟩:=hg
      rcases hor with rfl | hor
      · simp [World.frozen?,hf]
      · simp [World.frozen?,hf]
        omega
    obtain ⟨f,hf⟩:=hg.row
    have hst : (store ((⟨g, o, none⟩ : Addr).add i) v).run P w = .ok () (w.setRow g (cur.setIfInBounds (o + i) v)) := by
      rw [hadd,run_store P w _ v _ (h1 v (by simp)),hcell]
      simp [hfro,setCell_eq_setRow w g (o + i) cur t f v hf]
    have ih:=run_storeCells_lies (P:=P) g o t rest (i + 1) (cur.setIfInBounds (o + i) v) (w.setRow g (cur.setIfInBounds (o + i) v)) (hg.set (by simp)) (by simp at hl ⊢; omega) (fun x hx => h1 x (by simp [hx]))
    simp only [storeCells,Sem.run_bind,hst,Result.andThen_ok,ih,setRow_setRow]
    congr 3
    have e:=list_seg_step cur.toList (o + i) v rest (by simp at hl ⊢; omega)
    simpa [Array.toList_setIfInBounds,Nat.add_assoc] using e
theorem Inv.writeFlat {σ:Nat → Addr} {K:Ctx} {H:Heap} {w:World} (inv:Inv σ K H w) {l:Nat} {b:Blk} (hb:H.blk l = some b) (hf:H.floor ≤ l) (hm:¬ tagM (K.ρ l))
  {cs:Array Value} {cs':List Value} {e:TypeId} {rows:List (List V)} (hcs:Lies w (K.ρ l).1 cs e) (hsz:cs'.length = cs.size)
  (hs:∀ r ∈ rows,r.length = b.sz) (hroom:(K.ρ l).2.1 + rows.length * b.sz ≤ cs.size)
  (hc:CellsAt σ K w (fun k => cs'[k]?) (K.ρ l).2.1 rows.flatten) :
  Inv σ K (H.set l ⟨b.sz,rows⟩) (w.setRow (K.ρ l).1 cs'.toArray) ∧ Evo K H w K (H.set l ⟨b.sz,rows⟩) (w.setRow (K.ρ l).1 cs'.toArray) :=
 inv.write hb hf hm hcs (by simpa using hsz) hs (by simpa [hsz] using hroom) (by have:=(rows_flat hs).2 hc; simpa using this)
end Go.Fv
namespace Go.Fv
open Go
def Out (P:Program) (σ:Nat → Addr) (K:Ctx) (H:Heap) (w:World) (s:Sem Next) (v:V) (H':Heap):Prop :=
 ∃ x w' K',(s.run P w = .ok (.value x) w' ∨ (s.run P w = .ok .skip w' ∧ x = Go.undef)) ∧ Rel σ K' w' v x ∧ Inv σ K' H' w' ∧ Evo K H w K' H' w'
section
variable {C:Cfg} {σ:Nat → Addr} {K:Ctx} {H H':Heap} {w:World} {v:V}
theorem Out.same {P:Program} {s:Sem Next} {x:Value} (inv:Inv σ K H w) (hr:s.run P w = .ok (.value x) w) (h:Rel σ K w v x):Out P σ K H w s v H :=
 ⟨x,w,K,.inl hr,h,inv,.refl _ _ _⟩
theorem lift_eq {α:Type} {o:Option α} {a:α} (h:M.lift o H = some (a,H')):o = some a ∧ H' = H:=by
 cases o with
 | none => simp [M.lift] at h
 | some b => simp [M.lift] at h; exact ⟨by rw [h.1],h.2.symm⟩
theorem info_of_under {P:Program} {t:TypeId} {d:TypeDesc} (h:P.underlying t = some d):∃ i,P.info? t = some i:=by
 unfold Program.underlying at h
 split at h
 ·rename_i hh; exact ⟨_,hh⟩
 ·rename_i hh; exact ⟨_,hh⟩
 ·cases h
theorem run_sizeOf {P:Program} {t:TypeId} {i:TypeInfo} (h:P.info? t = some i) (w:World):(sizeOf t).run P w = .ok (P.cellsOf t) w:=by
 simp [sizeOf,typeInfo,h,Program.cellsOf]
theorem run_isAgg {P : Program} {t : TypeId} {b : Bool} (h : isAgg P t = some b) (w : World) : (Go.isAgg t).run P w = .ok b w := by
  unfold isAgg at h
  cases hu:P.underlying t with
  | none => rw [hu] at h; cases h
  | some d =>
    rw [hu] at h
    unfold Go.isAgg
    rw [Sem.run_bind,run_underlying hu w]
    cases d <;> simp at h <;> subst h <;> rfl
theorem ok_cells {n:Nat}:∀ {l:List V} {xs:List Value},l.length = xs.length → (∀ c ∈ l,c.isCell = true) → (∀ (j:Nat) c x,l[j]? = some c → xs[j]? = some x → Rel σ K w c x) → n = n → Rel σ K w (.agg l) (.agg xs.toArray):=by
 intro l xs h1 h2 h3 _
 exact .agg l xs.toArray (by simpa using h1) h2 (fun i a b ha hb => h3 i a b ha (by simpa using hb))
theorem place (inv : Inv σ K H w) {p : V} {x : Value} (h : Rel σ K w p x) {row : List V} {o : Nat} (hp : placeV p H = some (row, o)) :
    ∃ b base,x = .pointer (some ⟨b,base + o,none⟩) ∧ CellsAt σ K w (fun k => w.cell? ⟨b,k,none⟩) base row:=by
  cases h with
  | ptr l i o' b off sz hl hρ hm =>
    have hm':=tag_not hρ hm
    simp only [placeV] at hp
    cases hb:H.blk l with
    | none => rw [hb] at hp; simp at hp
    | some B =>
      rw [hb] at hp
      simp only [Option.bind_some] at hp
      cases hr:B.rows[i]? with
      | none => rw [hr] at hp; simp at hp
      | some r =>
        rw [hr] at hp
        simp only [Option.bind_some,Option.some.injEq,Prod.mk.injEq] at hp
        obtain ⟨rfl,rfl⟩:=hp
        have h0:=inv.blk l B hb
        obtain ⟨cs,e,h1,h2,h3⟩:=h0.at' hm'
        have hz:=h0.sz
        rw [hρ] at h1 h3 hz
        simp only at h1 h3 hz
        subst hz
        refine ⟨b,off + i * B.sz,rfl,fun j c hj => ?_⟩
        obtain ⟨h4,y,h5,h6⟩:=h3 i r j c hr hj
        exact ⟨h4,y,(h1.cell _).trans h5,h6⟩
  | iptr row' o' b off val hI hc hw h =>
    simp only [placeV,Option.some.injEq,Prod.mk.injEq] at hp
    obtain ⟨rfl,rfl⟩:=hp
    exact ⟨b,off,rfl,fun j c hj => ⟨V.cell_of_closed (hc c (List.mem_of_getElem? hj)),val j,hw j c hj,h j c hj⟩⟩
  | _ => simp [placeV] at hp
theorem ok_load (inv : Inv σ K H w) {t : TypeId} {p : V} {x : Value} (hp : Rel σ K w p x) (h : loadT C.P t p H = some (v, H')) :
    ∃ y,(Instr.loadAt t x).run C.P w = .ok y w ∧ Rel σ K w v y ∧ H' = H:=by
  unfold loadT at h
  cases ha:isAgg C.P t with
  | none => rw [ha] at h; cases h
  | some ag =>
    rw [ha] at h
    cases hpl:placeV p H with
    | none => cases ag <;> simp [loadN,load1,hpl] at h
    | some ro =>
      obtain ⟨row,o⟩:=ro
      obtain ⟨b,base,rfl,hc⟩:=place inv hp hpl
      have hadd:∀ j,(⟨b,base + o,none⟩:Addr).add j = ⟨b,base + o + j,none⟩:=fun j => by unfold Addr.add; split <;> simp_all
      have hag:=run_isAgg ha w
      cases ag with
      | true =>
        simp only [loadN,hpl,Option.bind_some] at h
        by_cases hle:o + C.P.cellsOf t ≤ row.length
        · rw [if_pos hle] at h
          injection h with h
          injection h with h1 h2
          subst h1; subst h2
          have hseg:=(hc.drop o).take (C.P.cellsOf t)
          obtain ⟨xs,e1,e2,e3,e4⟩:=hseg.vals
          have hlen:xs.length = C.P.cellsOf t:=by rw [e1,List.length_take,List.length_drop]; omega
          have hl:=run_loadCells_list (P:=C.P) w ⟨b,base + o,none⟩ xs (fun j y hy => by rw [hadd]; exact e2 j y hy)
          rw [hlen] at hl
          have hi : ∃ i, C.P.info? t = some i := by
            unfold isAgg at ha
            cases hu:C.P.underlying t with
            | none => rw [hu] at ha; cases ha
            | some d => exact info_of_under hu
          obtain ⟨i,hi⟩:=hi
          refine ⟨.agg xs.toArray,?_,ok_cells e1.symm hseg.cell e3 (n:=0) rfl,rfl⟩
          simp [Instr.loadAt,Instr.sureAddr,loadVar,hag,run_sizeOf hi,hl]
        · rw [if_neg hle] at h; cases h
      | false =>
        simp only [load1,hpl,Option.bind_some] at h
        cases hv:row[o]? with
        | none => rw [hv] at h; simp at h
        | some c =>
          rw [hv] at h
          simp only [Option.bind_some,Option.some.injEq,Prod.mk.injEq] at h
          obtain ⟨rfl,rfl⟩:=h
          obtain ⟨_,y,h2,h3⟩:=hc o c hv
          refine ⟨y,?_,h3,rfl⟩
          simp only at h2
          simp [Instr.loadAt,Instr.sureAddr,loadVar,hag,h2]
theorem ok_new (inv : Inv σ K H w) {t : TypeId} {a : V} {x : Value} (hr : Rel σ K w a x) (h : newV a H = some (v, H')) :
    ∃ y w' K',(newVar t x).run C.P w = .ok y w' ∧ Rel σ K' w' v (.pointer (some y)) ∧ Inv σ K' H' w' ∧ Evo K H w K' H' w':=by
  unfold newV at h
  cases hc:a.cells? with
  | none => rw [hc] at h; simp at h
  | some cs =>
    rw [hc] at h
    simp only [Option.bind_some,Option.some.injEq,Prod.mk.injEq] at h
    obtain ⟨rfl,rfl⟩:=h
    obtain ⟨h1,h2,h3⟩:=hr.cells hc
    obtain ⟨K', i', e', hn, hρ, hD⟩ := inv.add t cs.length [cs] x.cells (by simp) (by simp [h1]) (fun i r j c hi hj => by
      cases i with
      | zero =>
        simp at hi; subst hi
        refine ⟨h2 c (List.mem_of_getElem? hj),?_⟩
        have hlt:j < x.cells.size:=by rw [← h1]; exact (List.getElem?_eq_some_iff.1 hj).1
        exact ⟨x.cells[j],by simp [hlt],h3 j c _ hj (by simp [hlt])⟩
      | succ i => simp at hi)
    refine ⟨⟨w.heap.size,0,none⟩,_,K',by simp [newVar,newRow],?_,i',e'⟩
    rw [← inv.nx]
    have:=Rel.ptr (σ:=σ) (K:=K') (w:=w.alloc (Obj.cells x.cells t)) K.nx 0 0 w.heap.size 0 cs.length hD hρ (fun h => absurd h.1 Nat.zero_ne_one)
    simpa using this
theorem ok_store (inv : Inv σ K H w) {t : TypeId} {p a : V} {x y : Value} (hp : Rel σ K w p x) (ha : Rel σ K w a y) {i : TypeInfo} (hi : C.P.info? t = some i) (h : storeN (C.P.cellsOf t) p a H = some (v, H')) :
    ∃ w',(Instr.storeAt t x y).run C.P w = .ok () w' ∧ v = .undef ∧ Inv σ K H' w' ∧ Evo K H w K H' w':=by
  cases hp with
  | ptr l i' o b off sz hl hρ hm =>
    have hm':=tag_not hρ hm
    simp only [storeN] at h
    by_cases hf:H.floor ≤ l
    · rw [if_pos hf] at h
      cases hc:a.cells? with
      | none => rw [hc] at h; simp at h
      | some cs =>
        rw [hc] at h
        simp only [Option.bind_some] at h
        by_cases hn:cs.length = C.P.cellsOf t
        · rw [if_pos hn] at h
          cases hb:H.blk l with
          | none => rw [hb] at h; simp at h
          | some B =>
            rw [hb] at h
            simp only [Option.bind_some] at h
            cases hr:B.rows[i']? with
            | none => rw [hr] at h; simp at h
            | some r =>
              rw [hr] at h
              simp only [Option.bind_some] at h
              unfold putRow at h
              by_cases hle:o + cs.length ≤ r.length
              · rw [if_pos hle] at h
                simp only [Option.bind_some,Option.some.injEq,Prod.mk.injEq] at h
                obtain ⟨rfl,rfl⟩:=h
                obtain ⟨h1,h2,h3⟩:=ha.cells hc
                have h0:=inv.blk l B hb
                obtain ⟨cur,e,g1,g2,g3⟩:=h0.flat hm'
                have hz:=h0.sz
                rw [hρ] at g1 g2 g3 hz
                simp only at g1 g2 g3 hz
                subst hz
                have hrl:=(h0.rows' hm') r (List.mem_of_getElem? hr)
                have hilt:i' < B.rows.length:=(List.getElem?_eq_some_iff.1 hr).1
                have hfl:=flatten_length B.rows (h0.rows' hm')
                have hmul : i' * B.sz + B.sz ≤ B.rows.length * B.sz := by
                  have:(i' + 1) * B.sz ≤ B.rows.length * B.sz:=Nat.mul_le_mul_right _ hilt
                  rwa [Nat.succ_mul] at this
                have hone : ∀ u ∈ y.cells.toList, u.oneCell' = true := fun u hu => by
                  obtain ⟨j,hj⟩:=List.getElem?_of_mem hu
                  have hlt:j < cs.length:=by rw [h1]; simpa using (List.getElem?_eq_some_iff.1 hj).1
                  exact (h3 j cs[j] u (List.getElem?_eq_getElem hlt) (by simpa using hj)).oneCell (h2 _ (List.getElem_mem hlt))
                have hlen:y.cells.toList.length = cs.length:=by simpa using h1.symm
                have hst:=run_storeCells_lies (P:=C.P) b (off + i' * B.sz + o) e y.cells.toList 0 cur w g1 (by rw [hlen]; omega) hone
                have hsp:=g3.splice (new:=cs) (vs:=y.cells.toList) (i' * B.sz + o) (by rw [hfl]; omega) hlen (by rw [hfl]; simpa using g2) h2 (fun j c z hj hz => h3 j c z hj (by simpa using hz))
                rw [← flatten_splice B.rows (h0.rows' hm') i' o r cs hr hle,← Nat.add_assoc] at hsp
                have hrows : ∀ r' ∈ B.rows.set i' (r.take o ++ cs ++ r.drop (o + cs.length)), r'.length = B.sz := fun r' h' => by
                  rcases List.mem_or_eq_of_mem_set h' with h' | h'
                  · exact (h0.rows' hm') r' h'
                  · rw [h']; simp; omega
                simp only [Nat.add_zero] at hst
                generalize hcs':cur.toList.take (off + i' * B.sz + o) ++ y.cells.toList ++ cur.toList.drop (off + i' * B.sz + o + y.cells.toList.length) = cs' at hst hsp
                have hl':cs'.length = cur.size:=by rw [← hcs']; simp only [List.length_append,List.length_take,List.length_drop,Array.length_toList] at *; omega
                obtain ⟨j1,j2⟩:=inv.writeFlat hb hf hm' (cs:=cur) (e:=e) (by rw [hρ]; exact g1) hl' hrows (by rw [hρ]; simpa using g2) (by rw [hρ]; exact hsp)
                rw [hρ] at j1 j2
                have hcs:y.cells.size = C.P.cellsOf t:=by rw [← h1,hn]
                refine ⟨_,?_,rfl,j1,j2⟩
                simp [Instr.storeAt,Instr.sureAddr,storeVar,run_sizeOf hi,hcs,hst]
              · rw [if_neg hle] at h; simp at h
        · rw [if_neg hn] at h; cases h
    · rw [if_neg hf] at h; cases h
  | _ => simp [storeN] at h
end
end Go.Fv
