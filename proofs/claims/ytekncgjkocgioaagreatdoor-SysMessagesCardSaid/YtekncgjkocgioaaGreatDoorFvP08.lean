/-
  Operations, further: bytes and strings. By an AI agent; no person has read it.
-/
import Derived.Test.YtekncgjkocgioaaGreatDoorFvP07
import Derived.Laws.BytesString
import Derived.MapKept
set_option linter.unusedVariables false
set_option linter.unusedSimpArgs false
set_option linter.unusedSectionVars false
/-! Operations, further: bytes and strings. -/
namespace Go.Fv
open Go
section
variable {C:Cfg} {σ:Nat → Addr} {K:Ctx} {H H':Heap} {w:World} {v:V}
theorem mapM_byte : ∀ {rows : List (List V)} {l : List UInt8}, rows.mapM byteOf = some l → ∃ ns : List Int, rows = ns.map (fun n => [V.int .u8 n]) ∧ l = ns.map fun n => UInt8.ofNat n.toNat
  | [],l,h => by simp at h; exact ⟨[],rfl,by simpa using h.symm⟩
  | r :: rows, l, h => by
    rw [List.mapM_cons] at h
    cases hb:byteOf r with
    | none => rw [hb] at h; cases h
    | some b =>
      rw [hb] at h
      cases hm:rows.mapM byteOf with
      | none => rw [hm] at h; cases h
      | some l' =>
        rw [hm] at h
        have h':b :: l' = l:=by simpa using h
        obtain ⟨ns,e1,e2⟩:=mapM_byte hm
        have : ∃ n : Int, r = [V.int .u8 n] ∧ b = UInt8.ofNat n.toNat := by
          unfold byteOf at hb
          split at hb
          · rename_i n
            exact ⟨n,rfl,by injection hb with hb; exact hb.symm⟩
          · cases hb
        obtain ⟨n,e3,e4⟩:=this
        exact ⟨n :: ns,by rw [e1,e3]; rfl,by rw [← h',e2,e4]; rfl⟩
theorem foldl_push (ns : List Int) : ∀ s : ByteArray, (ns.foldl (fun r n => r.push (UInt8.ofNat n.toNat)) s).data.toList = s.data.toList ++ ns.map fun n => UInt8.ofNat n.toNat := by
  induction ns with
  | nil => intro s; simp
  | cons n ns ih =>
    intro s
    rw [List.foldl_cons,ih]
    simp [ByteArray.push]
theorem foldl_push_eq (ns : List Int) : ns.foldl (fun r n => r.push (UInt8.ofNat n.toNat)) ByteArray.empty = ⟨(ns.map fun n => UInt8.ofNat n.toNat).toArray⟩ := by
  have h:=foldl_push ns ByteArray.empty
  generalize ns.foldl (fun r n => r.push (UInt8.ofNat n.toNat)) ByteArray.empty = b at h
  cases b with
  | mk d =>
    congr 1
    apply Array.ext'
    rw [h]
    rfl
theorem isByte_eq {P:Program} {t:TypeId} (h:isByte P t = true):P.underlying t = some (.int .u8):=by
 unfold isByte at h
 split at h
 ·assumption
 ·cases h
theorem ok_readBytes (inv : Inv σ K H w) {s d el : TypeId} (hs : C.P.underlying s = some (.slice el)) (hd : C.P.underlying d = some .string) (he : C.P.underlying el = some (.int .u8)) {x : V} {a : Value} (hx : Rel σ K w x a)
    (h:readBytes x H = some (v,H')):∃ z,(convert s d a).run C.P w = .ok z w ∧ Rel σ K w v z ∧ H' = H:=by
  have hns:∀ u,x ≠ .str u:=fun u e => by rw [e] at h; cases h
  have h' : ∃ rows b, itemsV 1 x H = some rows ∧ bytesOf rows = some b ∧ v = .str b ∧ H' = H := by
    unfold readBytes at h
    split at h
    · cases h
    · cases hi : itemsV 1 x H with
      | none => rw [hi] at h; cases h
      | some rows =>
        rw [hi] at h
        cases hb:bytesOf rows with
        | none => rw [Option.bind_some,hb] at h; cases h
        | some b =>
          rw [Option.bind_some,hb] at h
          simp only [Option.bind_some,Option.some.injEq,Prod.mk.injEq] at h
          exact ⟨rows,b,rfl,hb,h.1.symm,h.2.symm⟩
  obtain ⟨rows,b,hi,hb,rfl,rfl⟩:=h'
  unfold bytesOf at hb
  cases hm:rows.mapM byteOf with
  | none => rw [hm] at hb; cases hb
  | some l =>
  rw [hm] at hb
  have hb':(⟨l.toArray⟩:ByteArray) = b:=by simpa using hb
  obtain ⟨ns,e1,e2⟩:=mapM_byte hm
  obtain ⟨xs,q1,q2,_,_,q5,q6,_,_⟩:=items_ok (C:=C) inv hx hi
  have hfl : rows.flatten = ns.map fun n => V.int .u8 n := by
    rw [e1]
    clear e1 e2 hm hi q1 q2 q5 q6 hb hb'
    induction ns with
    | nil => rfl
    | cons n ns ih => simp [ih]
  have hlen:rows.length = ns.length:=by rw [e1]; simp
  have hxs : xs = ns.map (Value.int .u8) := by
    apply List.ext_getElem?
    intro j
    rw [List.getElem?_map]
    cases hn:ns[j]? with
    | none =>
      have:ns.length ≤ j:=by simpa using hn
      simp
      omega
    | some n =>
      have hj:j < ns.length:=(List.getElem?_eq_some_iff.1 hn).1
      have hjx:j < xs.length:=by omega
      have:=q6 j (.int .u8 n) xs[j] (by rw [hfl,List.getElem?_map,hn]; rfl) (List.getElem?_eq_getElem hjx)
      rw [List.getElem?_eq_getElem hjx]
      generalize xs[j] = y at this
      cases this
      rfl
  have fin : ∀ (ad : Addr) (n cap : Nat), a = .slice (some ad) n cap → ∃ z, (convert s d a).run C.P w = .ok z w ∧ Rel σ K w (.str b) z := by
    rintro ad n cap rfl
    have hn : n = rows.length := by
      have:=q1 w
      simp [Builtin.lenOf] at this
      exact this
    have hl:=q2 w rfl
    simp only [Builtin.firstCells,Nat.mul_one] at hl
    rw [← hn,hxs] at hl
    refine ⟨_,(run_convert_bytes_string w s d el _ _ _ hs he hd).trans (run_bytesToString w ad n cap ns hl),?_⟩
    rw [foldl_push_eq,← e2,hb']
    exact .str _
  cases hx with
  | nils =>
    have hr:rows = []:=by simp [itemsV] at hi; exact hi
    have hn0:ns = []:=by rw [hr] at hlen; exact List.eq_nil_of_length_eq_zero (by simpa using hlen.symm)
    refine ⟨_,(run_convert_bytes_string w s d el _ _ _ hs he hd).trans (by unfold Conv.bytesToString; exact Sem.run_pure ..),?_,rfl⟩
    rw [← hb',e2,hn0]
    exact .str _
  | emp ad => exact (fin _ _ _ rfl).imp fun _ h => ⟨h.1,h.2,rfl⟩
  | imm0 sz ad cap => exact (fin _ _ _ rfl).imp fun _ h => ⟨h.1,h.2,rfl⟩
  | imm sz rows' b' off cap val hI hcap hs hc hw hr => exact (fin _ _ _ rfl).imp fun _ h => ⟨h.1,h.2,rfl⟩
  | sub l' i' o n c b' off z hl hρ hmt => exact (fin _ _ _ rfl).imp fun _ h => ⟨h.1,h.2,rfl⟩
  | ref l' sz s' n c ex a' cap b' off hl hρ hn hc hex ha hmt => exact (fin _ _ _ rfl).imp fun _ h => ⟨h.1,h.2,rfl⟩
  | str u => exact absurd rfl (hns u)
  | _ => simp [itemsV] at hi
theorem modify_push {α:Type} (h:Array α) (o:α) (f:α → α):(h.push o).modify h.size f = h.push (f o):=by
 apply Array.ext'
 have:∀ l:List α,(l ++ [o]).modify l.length f = l ++ [f o]:=fun l => by
  induction l with
  | nil => rfl
  | cons a l ih => simp [ih]
 have h0:=this h.toList
 simpa [Array.toList_modify] using h0
theorem freeze_alloc (w:World) (cs:Array Value) (e:TypeId):(w.alloc (Obj.cells cs e)).freeze ⟨w.heap.size,cs.size,none⟩ 1 = w.alloc (Obj.cells cs e (cs.size,cs.size + 1)):=by
 have:(w.heap.push (Obj.cells cs e)).modify w.heap.size (fun
   | .cells c elem (lo,hi) => .cells c elem (if lo == hi then (cs.size,cs.size + 1) else (min lo cs.size,max hi (cs.size + 1)))
   | o => o) = w.heap.push (Obj.cells cs e (cs.size,cs.size + 1)):=modify_push _ _ _
 unfold World.freeze
 rw [if_neg (by decide)]
 show World.mk _ _ _ _ _ = World.mk _ _ _ _ _
 exact congrArg (fun h => { w with heap:=h }) this
theorem shape_alloc (w:World) (cs:Array Value) (e:TypeId):(w.alloc (Obj.cells cs e)).shape? w.heap.size = some (e,cs.size):=by
 unfold World.shape?
 rw [heap_alloc_new w _]
theorem shape_alloc' (w:World) (cs:Array Value) (e:TypeId):(w.drew.alloc (Obj.cells cs e)).shape? w.heap.size = some (e,cs.size):=shape_alloc w.drew cs e
theorem ok_newBytes (inv : Inv σ K H w) {s d el : TypeId} (hs : C.P.underlying s = some .string) (hd : C.P.underlying d = some (.slice el)) (he : C.P.underlying el = some (.int .u8)) (u : ByteArray)
    (h:newRows 1 (bytesRows u) false H = some (v,H')):∃ z w' K',(convert s d (.string u)).run C.P w = .ok z w' ∧ Rel σ K' w' v z ∧ Inv σ K' H' w' ∧ Evo K H w K' H' w':=by
  simp only [newRows,Option.some.injEq,Prod.mk.injEq] at h
  obtain ⟨rfl,rfl⟩:=h
  have hcap:=grownCap_ge w u.size 0 el
  generalize hcs:((u.data.map fun b => Value.int .u8 b.toNat) ++ Array.replicate (grownCap w u.size 0 el - u.size) (Value.int .u8 0):Array Value) = cs
  have hrun : (convert s d (.string u)).run C.P w = .ok (.slice (some ⟨w.heap.size, 0, none⟩) u.size (grownCap w u.size 0 el)) (w.drew.alloc (Obj.cells cs el (cs.size, cs.size + 1))) := by
    rw [← freeze_alloc,← hcs]
    simp [convert,run_underlying hs,run_underlying hd,run_underlying he,Conv.stringToBytes,Question.forced,newRow,grownCap,markStringish,shape_alloc',freeze]
    rfl
  obtain ⟨d1,d2⟩:=inv.drew
  have hlen:(bytesRows u).length = u.size:=by simp [bytesRows]
  have hcl:cs.toList = (u.data.toList.map fun b => Value.int .u8 b.toNat) ++ List.replicate (grownCap w u.size 0 el - u.size) (Value.int .u8 0):=by rw [← hcs]; simp
  have hfl : (bytesRows u).flatten = u.data.toList.map fun b => V.int .u8 b.toNat := by
    unfold bytesRows
    generalize u.data.toList = l
    induction l with
    | nil => rfl
    | cons b l ih => simp [ih]
  obtain ⟨K', j1, j2, j3⟩ := newRows_okF (cs.size, cs.size + 1) d1 el 1 (bytesRows u) cs (.inr (Nat.le_refl _)) (grownCap w u.size 0 el) false
    (fun r hr => by
      unfold bytesRows at hr
      rw [List.mem_map] at hr
      obtain ⟨b,_,rfl⟩:=hr
      rfl)
    (by rw [hlen]; exact hcap)
    (by
      have:cs.size = cs.toList.length:=by simp
      rw [this,hcl]
      simp
      have:u.size = u.data.size:=rfl
      omega)
    (fun h => by cases h)
    (fun j c hj => by
      rw [hfl,List.getElem?_map] at hj
      cases hb:u.data.toList[j]? with
      | none => rw [hb] at hj; cases hj
      | some b =>
        rw [hb] at hj
        cases hj
        have hjl:j < (u.data.toList.map fun b => Value.int .u8 b.toNat).length:=by rw [List.length_map]; exact (List.getElem?_eq_some_iff.1 hb).1
        refine ⟨rfl,Value.int .u8 b.toNat,?_,.int _ _⟩
        show cs.toList[0 + j]? = _
        rw [Nat.zero_add,hcl,List.getElem?_append_left hjl,List.getElem?_map,hb]
        rfl)
  rw [hlen] at j3
  exact ⟨_,_,K',hrun,by rw [hlen]; exact j3,j1,Evo.trans inv d1 d2 j2⟩
theorem ok_convM (inv:Inv σ K H w) {s d:TypeId} {x:V} {a:Value} (hx:Rel σ K w x a) (h:convM C.P s d x H = some (v,H')) :
  ∃ z w' K',(convert s d a).run C.P w = .ok z w' ∧ Rel σ K' w' v z ∧ Inv σ K' H' w' ∧ Evo K H w K' H' w':=by
 unfold convM at h
 have rest:M.lift (convV C.P s d x) H = some (v,H') → ∃ z w' K',(convert s d a).run C.P w = .ok z w' ∧ Rel σ K' w' v z ∧ Inv σ K' H' w' ∧ Evo K H w K' H' w':=fun h => by
  obtain ⟨h2,rfl⟩:=lift_eq h
  obtain ⟨z,h3,h4⟩:=ok_conv hx h2
  exact ⟨z,w,K,h3,h4,inv,.refl _ _ _⟩
 cases hs:C.P.underlying s with
 | none => rw [hs] at h; exact rest h
 | some us =>
 cases hd:C.P.underlying d with
 | none => rw [hs,hd] at h; cases us <;> exact rest h
 | some ud =>
 rw [hs,hd] at h
 cases us <;> cases ud
 case slice.string el =>
  simp only at h
  split at h
  ·rename_i he
   obtain ⟨z,h1,h2,rfl⟩:=ok_readBytes (C:=C) inv hs hd (isByte_eq he) hx h
   exact ⟨z,w,K,h1,h2,inv,.refl _ _ _⟩
  ·cases h
 case string.slice el =>
  simp only at h
  split at h
  ·rename_i he
   cases hx <;> first | exact ok_newBytes inv hs hd (isByte_eq he) _ h | cases h
  ·cases h
 all_goals exact rest h
end
end Go.Fv
namespace Go.Fv
open Go
section
variable {C:Cfg} {σ:Nat → Addr} {K:Ctx} {H H':Heap} {w:World} {v:V}
theorem map_find {R : V → Value → Prop} {kk : IntKind} {q : IntKind} {a : Int} : ∀ {rows : List (List V)} {es : List MapEntry} (i : Nat) {r : Option (Nat × V)}, MapRows R rows es → findM q a rows i = some r →
    (r = none ∧ Instr.findNow (.int kk) (.int q a) es i = some none) ∨
    (∃ j u y e,r = some (i + j,u) ∧ Instr.findNow (.int kk) (.int q a) es i = some (some (i + j,y)) ∧ R u y ∧ es[j]? = some e ∧ e.key = .int q a)
  | [], [], i, r, _, h => by
    simp [findM] at h
    exact .inl ⟨h.symm,rfl⟩
  | [],_ :: _,_,_,hr,_ => by simp [MapRows] at hr
  | _ :: _,[],_,_,hr,_ => by simp [MapRows] at hr
  | r0 :: rows, e :: es, i, r, hr, h => by
    obtain ⟨⟨q',b,u,rfl,hu,hk⟩,ht⟩:=hr
    simp only [findM] at h
    by_cases hq:q = q'
    · subst hq
      rw [if_pos rfl] at h
      by_cases hab:a = b
      · subst hab
        rw [if_pos rfl] at h
        injection h with h
        subst h
        exact .inr ⟨0,u,e.val,e,rfl,by simp [Instr.findNow,Instr.sameNow,hk],hu,rfl,hk⟩
      · rw [if_neg hab] at h
        have hb:(a == b) = false:=by simpa using hab
        rcases map_find (kk:=kk) (i + 1) ht h with ⟨h1,h2⟩ | ⟨j,u',y,e',h1,h2,h3,h4,h5⟩
        · exact .inl ⟨h1,by simp [Instr.findNow,Instr.sameNow,hk,hb,h2]⟩
        · refine .inr ⟨j + 1,u',y,e',by rw [h1]; congr 2; omega,?_,h3,by simpa using h4,h5⟩
          simp [Instr.findNow,Instr.sameNow,hk,hb,h2]
          omega
    · rw [if_neg hq] at h
      cases h
theorem MapRows.set {R : V → Value → Prop} {q : IntKind} {a : Int} {u : V} {y : Value} (hu : R u y) {f : MapEntry → MapEntry} (hf : ∀ e, (f e).key = .int q a ∧ (f e).val = y) : ∀ {rows : List (List V)} {es : List MapEntry} (j : Nat), MapRows R rows es →
    MapRows R (rows.set j [.int q a,u]) (es.modify j f)
  | [],[],j,_ => by simp [MapRows]
  | [],_ :: _,_,h => by simp [MapRows] at h
  | _ :: _,[],_,h => by simp [MapRows] at h
  | r :: rows, e :: es, 0, h => by
    simp only [List.set_cons_zero,List.modify_zero_cons]
    exact ⟨⟨q,a,u,rfl,by rw [(hf e).2]; exact hu,(hf e).1⟩,h.2⟩
  | r :: rows, e :: es, j + 1, h => by
    simp only [List.set_cons_succ,List.modify_succ_cons]
    exact ⟨h.1,MapRows.set hu hf j h.2⟩
theorem MapRows.push {R:V → Value → Prop} {q:IntKind} {a:Int} {u:V} {e0:MapEntry} (hu:R u e0.val) (hk:e0.key = .int q a):∀ {rows:List (List V)} {es:List MapEntry},MapRows R rows es →
  MapRows R (rows ++ [[.int q a,u]]) (es ++ [e0])
 | [],[],_ => ⟨⟨q,a,u,rfl,hu,hk⟩,trivial⟩
 | [],_ :: _,h => by simp [MapRows] at h
 | _ :: _,[],h => by simp [MapRows] at h
 | r :: rows,e :: es,h => ⟨h.1,MapRows.push hu hk h.2⟩
theorem Inv.addM (inv:Inv σ K H w):∃ K',Inv σ K' (H.add ⟨0,[]⟩) (w.alloc (Obj.map #[] 0)) ∧ Evo K H w K' (H.add ⟨0,[]⟩) (w.alloc (Obj.map #[] 0)) ∧ K'.ρ H.next = (w.heap.size,1,0) ∧ K'.D H.next:=by
 let K':Ctx:=⟨K.I,fun l => if l = K.nx then (w.heap.size,1,0) else K.ρ l,K.nx + 1,fun l => K.D l ∨ l = K.nx⟩
 have hnew:(w.alloc (Obj.map #[] 0)).heap[w.heap.size]? = some (Obj.map #[] 0):=heap_alloc_new w _
 have hold:∀ i,i < w.heap.size → (w.alloc (Obj.map #[] 0)).heap[i]? = w.heap[i]?:=fun i hi => heap_alloc_old w _ i hi
 have hlt:∀ (b:Nat) o,w.heap[b]? = some o → b < w.heap.size:=fun b o h => (Array.getElem?_eq_some_iff.1 h).1
 have ρo:∀ l,l ≠ H.next → K'.ρ l = K.ρ l:=fun l e => by show (if l = K.nx then _ else _) = _; rw [if_neg (by rw [inv.nx]; exact e)]
 have ρn:K'.ρ H.next = (w.heap.size,1,0):=by show (if H.next = K.nx then _ else _) = _; rw [if_pos inv.nx.symm]
 have old:∀ l B,(H.add ⟨0,[]⟩).blk l = some B → l ≠ H.next → H.blk l = some B:=fun l B hB e => by
  have:(if l = H.next then _ else _) = some B:=hB; rwa [if_neg e] at this
 have evo:Evo K H w K' (H.add ⟨0,[]⟩) (w.alloc (Obj.map #[] 0)):={
  I:=fun _ h => h
  ρ:=fun l hl => ρo l (by have:=inv.dom l hl; rw [inv.nx] at this; omega)
  D:=fun l h => .inl h
  nx:=Nat.le_succ _
  floor:=rfl
  low:=fun l _ hl => by show (if l = H.next then _ else _) = _; rw [if_neg (by omega)]
  frame:=fun b hb _ => hold b hb
  shape:=fun b cs' e f h => ⟨cs',f,(hold b (hlt _ _ h)).trans h,rfl⟩
  size:=by show w.heap.size ≤ (w.heap.push _).size; simp
  os:=rfl
  tape:=rfl
  output:=rfl
  range:=fun l B hB hl => by
   by_cases e:l = H.next
   ·subst e
    rw [ρn] at hl
    exact absurd hl (Nat.lt_irrefl _)
   ·exact ⟨l,B,old l B hB e,by rw [ρo l e],.inl rfl⟩
  newI:=fun b h _ => h
  newD:=fun l h hlt => h.resolve_right (by omega) }
 have mv:=inv.moves evo
 refine ⟨K',⟨by show K.nx + 1 = H.next + 1; rw [inv.nx],fun l h => by show l < K.nx + 1; rcases h with h | h; (have:=inv.dom l h; omega); omega,Nat.le_succ_of_le inv.flo,?_,?_,fun b hb => Nat.lt_of_lt_of_le (inv.imm b hb) evo.size⟩,evo,ρn,.inr inv.nx.symm⟩
 ·intro l B hB
  by_cases e:l = H.next
  ·subst e
   have hB':B = ⟨0,[]⟩:=by have:(if H.next = H.next then _ else _) = some B:=hB; rw [if_pos rfl] at this; injection this with this; exact this.symm
   subst hB'
   refine ⟨.inr inv.nx.symm,by rw [ρn],by rw [ρn]; exact fun h => absurd (inv.imm _ h) (Nat.lt_irrefl _),fun t => absurd (by rw [ρn]; exact ⟨rfl,rfl⟩) t,fun t => absurd (by rw [ρn]; exact ⟨rfl,rfl⟩) t,fun _ => by rw [ρn]; exact ⟨#[],0,hnew,trivial⟩⟩
  ·have hb:=inv.blk l B (old l B hB e)
   exact hb.keep mv (.inl hb.lt) (ρo l e) (hold _ hb.lt_size) hb.own
 ·intro l l' B B' hB hB' he
  by_cases e:l = H.next <;> by_cases e':l' = H.next
  ·rw [e,e']
  ·subst e
   rw [ρn,ρo l' e'] at he
   have:=(inv.blk l' B' (old l' B' hB' e')).lt_size
   simp only at he
   omega
  ·subst e'
   rw [ρn,ρo l e] at he
   have:=(inv.blk l B (old l B hB e)).lt_size
   simp only at he
   omega
  ·rw [ρo l e,ρo l' e'] at he
   exact inv.inj l l' B B' (old l B hB e) (old l' B' hB' e') he
theorem Inv.writeM (inv:Inv σ K H w) {l:Nat} {b:Blk} (hb:H.blk l = some b) (hf:H.floor ≤ l) {g:Nat} (hρ:K.ρ l = (g,1,0)) {rows:List (List V)} {es:Array MapEntry} {clock:Nat} (hr:MapRows (Rel σ K w) rows es.toList) :
  Inv σ K (H.set l ⟨b.sz,rows⟩) { w with heap:=w.heap.setIfInBounds g (Obj.map es clock) } ∧ Evo K H w K (H.set l ⟨b.sz,rows⟩) { w with heap:=w.heap.setIfInBounds g (Obj.map es clock) }:=by
 have h0:=inv.blk l b hb
 have ht:tagM (K.ρ l):=by rw [hρ]; exact ⟨rfl,rfl⟩
 have hob:=h0.mp' ht
 rw [hρ] at hob
 have hgl:g < w.heap.size:=hob.lt
 have hnew:(w.heap.setIfInBounds g (Obj.map es clock))[g]? = some (Obj.map es clock):=by simp [hgl]
 have hold:∀ i,i ≠ g → (w.heap.setIfInBounds g (Obj.map es clock))[i]? = w.heap[i]?:=fun i hi => by rw [Array.getElem?_setIfInBounds_ne (Ne.symm hi)]
 have evo:Evo K H w K (H.set l ⟨b.sz,rows⟩) { w with heap:=w.heap.setIfInBounds g (Obj.map es clock) }:={
  I:=fun _ h => h
  ρ:=fun _ _ => rfl
  D:=fun _ h => h
  nx:=Nat.le_refl _
  floor:=rfl
  low:=fun l' h' _ => by show (if l' = l then _ else _) = _; rw [if_neg (by omega)]
  frame:=fun i _ hi => hold i (fun e => hi l b hb hf (by rw [hρ]; exact e.symm))
  shape:=fun i cs1 e1 f1 h => by
   by_cases hi:i = g
   ·subst hi
    obtain ⟨es0,c0,h1,_⟩:=hob
    rw [h1] at h
    cases h
   ·exact ⟨cs1,f1,(hold i hi).trans h,rfl⟩
  size:=by simp
  os:=rfl
  tape:=rfl
  output:=rfl
  range:=fun l' B hB _ => by
   by_cases e:l' = l
   ·exact ⟨l',b,e ▸ hb,rfl,.inl rfl⟩
   ·have hB':H.blk l' = some B:=by have:(if l' = l then _ else _) = some B:=hB; rwa [if_neg e] at this
    exact ⟨l',B,hB',rfl,.inl rfl⟩
  newI:=fun _ h _ => h
  newD:=fun _ h _ => h }
 have mv:=inv.moves evo
 refine ⟨⟨inv.nx,inv.dom,inv.flo,?_,?_,fun i hi => by simpa using inv.imm i hi⟩,evo⟩
 ·intro l' B hB
  by_cases e:l' = l
  ·subst e
   have hB':B = ⟨b.sz,rows⟩:=by have:(if l' = l' then _ else _) = some B:=hB; rw [if_pos rfl] at this; injection this with this; exact this.symm
   subst hB'
   refine ⟨h0.lt,h0.sz,h0.own,fun t => absurd ht t,fun t => absurd ht t,fun _ => ?_⟩
   rw [hρ]
   exact ⟨es,clock,hnew,hr.mono fun _ _ h => h.mono mv⟩
  ·have hB':H.blk l' = some B:=by have:(if l' = l then _ else _) = some B:=hB; rwa [if_neg e] at this
   have h0':=inv.blk l' B hB'
   exact h0'.keep mv h0'.lt rfl (hold _ (fun he => e (inv.inj _ _ _ _ hB' hb (by rw [he,hρ])))) h0'.own
 ·intro l1 l2 B1 B2 h1 h2 he
  have live:∀ l' B,(H.set l ⟨b.sz,rows⟩).blk l' = some B → ∃ B',H.blk l' = some B':=fun l' B hB => by
   by_cases e:l' = l
   ·exact ⟨b,e ▸ hb⟩
   ·exact ⟨B,by have:(if l' = l then _ else _) = some B:=hB; rwa [if_neg e] at this⟩
  obtain ⟨C1,g1⟩:=live l1 B1 h1
  obtain ⟨C2,g2⟩:=live l2 B2 h2
  exact inv.inj _ _ _ _ g1 g2 he
theorem intKey_of {k:TypeId} (h:intKey C.P k = true):∃ kk,C.P.underlying k = some (.int kk):=by
 unfold intKey at h
 split at h
 ·rename_i kk hk; exact ⟨kk,hk⟩
 ·cases h
theorem run_intKey {k:TypeId} {kk:IntKind} (hk:C.P.underlying k = some (.int kk)) (q:IntKind) (a:Int) (em:Bool) (w:World):(Instr.checkKey em 10000 k (.int q a)).run C.P w = .ok () w:=by
 show (Instr.checkKey em (9999 + 1) k (.int q a)).run C.P w = .ok () w
 unfold Instr.checkKey
 simp [run_underlying hk]
theorem zeroS_rel {t : TypeId} {z : V} (h : zeroS C.P t = some z) : ∃ zv, (zeroValue t).run C.P w = .ok zv w ∧ Rel σ K w z zv := by
  unfold zeroS at h
  cases hi:C.P.info? t with
  | none => rw [hi] at h; simp at h
  | some i =>
    rw [hi] at h
    simp only [Option.bind_some] at h
    cases hz:i.zero with
    | none => rw [hz] at h; simp at h
    | some zv =>
      rw [hz] at h
      simp only [Option.map_some,Option.some.injEq] at h
      subst h
      exact ⟨zv,run_zeroValue hi hz w,rel_cstV zv⟩
theorem ok_makeMap (inv:Inv σ K H w) {t:TypeId} (h:newM H = some (v,H')):∃ y w' K',(Instr.makeMap t none).run C.P w = .ok y w' ∧ Rel σ K' w' v y ∧ Inv σ K' H' w' ∧ Evo K H w K' H' w':=by
 simp only [newM,Option.some.injEq,Prod.mk.injEq] at h
 obtain ⟨rfl,rfl⟩:=h
 obtain ⟨K',i',e',hρ,hD⟩:=inv.addM
 exact ⟨.map (some w.heap.size),w.alloc (Obj.map #[] 0),K',by simp [Instr.makeMap],.mp _ _ hD hρ,i',e'⟩
theorem ok_lookup (inv:Inv σ K H w) {t:TypeId} {ok:Bool} {x i:V} {y j:Value} (hx:Rel σ K w x y) (hi:Rel σ K w i j) (h:getM C.P t ok x i H = some (v,H')) :
  ∃ z,(Instr.lookup t y j ok).run C.P w = .ok z w ∧ Rel σ K w v z ∧ H' = H:=by
 unfold getM at h
 cases hu:C.P.underlying t with
 | none => rw [hu] at h; cases h
 | some d =>
 rw [hu] at h
 cases d <;> try (cases h; done)
 rename_i k el
 simp only at h
 split at h
 case isFalse => cases h
 rename_i hk
 obtain ⟨kk,hk⟩:=intKey_of hk
 cases hz:zeroS C.P el with
 | none => rw [hz] at h; cases h
 | some z =>
 rw [hz] at h
 simp only [getMz] at h
 cases hx <;> try (simp at h; done)
 rename_i l g hl hρ
 cases hi <;> try (simp at h; done)
 rename_i q a
 simp only at h
 cases hb:H.blk l with
 | none => rw [hb] at h; simp at h
 | some b =>
 cases hf:findM q a b.rows 0 with
 | none => rw [hb] at h; simp [hf] at h
 | some r =>
 rw [hb] at h
 simp only [Option.bind_some,hf] at h
 have hob:=(inv.blk l b hb).mp' (by rw [hρ]; exact ⟨rfl,rfl⟩)
 rw [hρ] at hob
 obtain ⟨es,clock,h1,h2⟩:=hob
 simp only at h1
 have two:∀ {v:V} {x:Value} (b:Bool),Rel σ K w v x → Rel σ K w (.tuple [v,.bool b]) (.tuple #[x,.bool b]):=fun {v x} b hr =>
  .tuple _ _ rfl (fun i a c ha hc => by
   match i with
   | 0 => simp at ha hc; subst ha; subst hc; exact hr
   | 1 => simp at ha hc; subst ha; subst hc; exact .bool _
   | i + 2 => simp at ha)
 have sel:∀ {v:V} {x:Value} (b:Bool),Rel σ K w v x → Rel σ K w (if ok then .tuple [v,.bool b] else v) (if ok then .tuple #[x,.bool b] else x):=fun {v x} b hr => by
  cases ok
  ·exact hr
  ·exact two b hr
 rcases map_find (kk:=kk) 0 h2 hf with ⟨rfl,h3⟩ | ⟨j,u,y,e,rfl,h3,h4,_,_⟩
 ·obtain ⟨zv,z1,z2⟩:=zeroS_rel (σ:=σ) (K:=K) (w:=w) hz
  simp only [Option.some.injEq,Prod.mk.injEq] at h
  obtain ⟨rfl,rfl⟩:=h
  refine ⟨if ok then .tuple #[zv,.bool false] else zv,?_,sel false z2,rfl⟩
  simp [Instr.lookup,run_underlying hu,MapKept.run_getObj_map h1,run_intKey hk,Instr.findKey,run_underlying hk,h3,z1]
 ·simp only [Option.some.injEq,Prod.mk.injEq] at h
  obtain ⟨rfl,rfl⟩:=h
  refine ⟨if ok then .tuple #[y,.bool true] else y,?_,sel true h4,rfl⟩
  simp [Instr.lookup,run_underlying hu,MapKept.run_getObj_map h1,run_intKey hk,Instr.findKey,run_underlying hk,h3]
theorem ok_mapUpdate (inv:Inv σ K H w) {t:TypeId} {x i u:V} {y j z:Value} (hx:Rel σ K w x y) (hi:Rel σ K w i j) (hz:Rel σ K w u z) (h:setM C.P t x i u H = some (v,H')) :
  ∃ w',(Instr.mapUpdate t y j z).run C.P w = .ok () w' ∧ v = .undef ∧ Inv σ K H' w' ∧ Evo K H w K H' w':=by
 unfold setM at h
 cases hu:C.P.underlying t with
 | none => rw [hu] at h; cases h
 | some d =>
 rw [hu] at h
 cases d <;> try (cases h; done)
 rename_i k el
 simp only at h
 split at h
 case isFalse => cases h
 rename_i hk
 obtain ⟨kk,hk⟩:=intKey_of hk
 simp only [setMz] at h
 cases hx <;> try (simp at h; done)
 rename_i l g hl hρ
 cases hi <;> try (simp at h; done)
 rename_i q a
 simp only at h
 split at h
 case isFalse => cases h
 rename_i hfl
 cases hb:H.blk l with
 | none => rw [hb] at h; simp at h
 | some b =>
 cases hf:findM q a b.rows 0 with
 | none => rw [hb] at h; simp [hf] at h
 | some r =>
 rw [hb] at h
 simp only [Option.bind_some,hf] at h
 have hob:=(inv.blk l b hb).mp' (by rw [hρ]; exact ⟨rfl,rfl⟩)
 rw [hρ] at hob
 obtain ⟨es,clock,h1,h2⟩:=hob
 simp only at h1
 rcases map_find (kk:=kk) 0 h2 hf with ⟨rfl,h3⟩ | ⟨j,u',y,e,rfl,h3,h4,h5,h6⟩
 ·simp only [Option.some.injEq,Prod.mk.injEq] at h
  obtain ⟨rfl,rfl⟩:=h
  obtain ⟨j1,j2⟩:=inv.writeM hb hfl hρ (es:=es.push { key:=.int q a,val:=z,born:=clock }) (clock:=clock + 1) (rows:=b.rows ++ [[.int q a,u]]) (by
   rw [Array.toList_push]; exact MapRows.push hz rfl h2)
  refine ⟨_,?_,rfl,j1,j2⟩
  simp [Instr.mapUpdate,run_underlying hu,MapKept.run_getObj_map h1,run_intKey hk,Instr.findKey,run_underlying hk,h3,MapKept.run_setObj_map _ h1]
 ·simp only [Option.some.injEq,Prod.mk.injEq,Nat.zero_add] at h
  obtain ⟨rfl,rfl⟩:=h
  obtain ⟨j1,j2⟩:=inv.writeM hb hfl hρ (es:=es.modify j fun e => { e with key:=.int q a,val:=z }) (clock:=clock) (rows:=b.rows.set j [.int q a,u]) (by
   rw [Array.toList_modify]; exact MapRows.set hz (fun e => ⟨rfl,rfl⟩) j h2)
  refine ⟨_,?_,rfl,j1,j2⟩
  have h5':es[j]? = some e:=by simpa using h5
  have hst:(Instr.keyThatStays (.int q a) (.int q a)).run C.P w = .ok (.int q a) w:=by simp [Instr.keyThatStays,Instr.sameBits]
  simp [Instr.mapUpdate,run_underlying hu,MapKept.run_getObj_map h1,run_intKey hk,Instr.findKey,run_underlying hk,h3,h5',h6,hst,MapKept.run_setObj_map _ h1]
end
end Go.Fv
