/-
  Operations, further: append, copy, clear, make. By an AI agent; no person has read it.
-/
import Derived.Test.YtekncgjkocgioaaGreatDoorFvP06
set_option linter.unusedVariables false
set_option linter.unusedSimpArgs false
set_option linter.unusedSectionVars false
/-! Operations, further: append, copy, clear, make. -/
namespace Go.Fv
open Go
section
variable {C:Cfg} {σ:Nat → Addr} {K:Ctx} {H H':Heap} {w:World} {v:V}
theorem write_seg (inv:Inv σ K H w) {l s:Nat} {B:Blk} (hb:H.blk l = some B) (hf:H.floor ≤ l) {blk off:Nat} (hρ:K.ρ l = (blk,off,B.sz)) (hm':¬ tagM (K.ρ l)) (new:List (List V)) (xs:List Value)
  (hs:∀ r ∈ new,r.length = B.sz) (hle:s ≤ B.rows.length) (hx:xs.length = new.length * B.sz) (hr:∀ (j:Nat) c x,new.flatten[j]? = some c → xs[j]? = some x → Rel σ K w c x)
  (hc:∀ c ∈ new.flatten,c.isCell = true) (h1:∀ x ∈ xs,x.oneCell' = true) (hroom:roomAt w blk (off + (s + new.length) * B.sz)) :
  ∃ w',(storeCells ⟨blk,off + s * B.sz,none⟩ xs).run C.P w = .ok () w' ∧
   Inv σ K (H.set l ⟨B.sz,B.rows.take s ++ new ++ B.rows.drop (s + new.length)⟩) w' ∧ Evo K H w K (H.set l ⟨B.sz,B.rows.take s ++ new ++ B.rows.drop (s + new.length)⟩) w':=by
 have hB:=inv.blk l B hb
 obtain ⟨cur,e,g1,g2,g3⟩:=hB.flat hm'
 rw [hρ] at g1 g2 g3
 simp only at g1 g2 g3
 have r2:=g1.room hroom
 have hfl:=flatten_length B.rows (hB.rows' hm')
 have hnl:=flatten_length new hs
 have hmul:(s + new.length) * B.sz = s * B.sz + new.length * B.sz:=Nat.add_mul _ _ _
 have hst:=run_storeCells_lies (P:=C.P) blk (off + s * B.sz) e xs 0 cur w g1 (by rw [hx]; omega) h1
 simp only [Nat.add_zero] at hst
 have hsmul:s * B.sz ≤ B.rows.length * B.sz:=Nat.mul_le_mul_right _ hle
 have hcs:CellsAt σ K w (fun k => (cur.toList.take (off + s * B.sz) ++ xs ++ cur.toList.drop (off + s * B.sz + xs.length))[k]?) off (B.rows.take s ++ new ++ B.rows.drop (s + new.length)).flatten:=by
  rw [List.flatten_append,List.flatten_append,flatten_take _ (hB.rows' hm'),flatten_drop _ (hB.rows' hm'),hmul]
  intro j c hj
  have hsp:=splice_get cur.toList xs (off + s * B.sz) (off + j) (by rw [hx]; simp; omega)
  simp only [hsp]
  have htl:(B.rows.flatten.take (s * B.sz)).length = s * B.sz:=by rw [List.length_take]; omega
  by_cases a1:j < s * B.sz
  ·rw [List.append_assoc,List.getElem?_append_left (by omega),List.getElem?_take,if_pos a1] at hj
   rw [if_pos (by omega)]
   exact g3 j c hj
  ·rw [if_neg (by omega)]
   by_cases a2:j < s * B.sz + new.length * B.sz
   ·rw [List.append_assoc,List.getElem?_append_right (by omega),htl,List.getElem?_append_left (by omega)] at hj
    rw [if_pos (by omega),show off + j - (off + s * B.sz) = j - s * B.sz by omega]
    have hlt:j - s * B.sz < xs.length:=by omega
    exact ⟨hc c (List.mem_of_getElem? hj),xs[j - s * B.sz],List.getElem?_eq_getElem hlt,hr _ c _ hj (List.getElem?_eq_getElem hlt)⟩
   ·rw [List.getElem?_append_right (by rw [List.length_append,htl,hnl]; omega),List.length_append,htl,hnl,List.getElem?_drop,show s * B.sz + new.length * B.sz + (j - (s * B.sz + new.length * B.sz)) = j by omega] at hj
    rw [if_neg (by omega)]
    exact g3 j c hj
 have hrows:∀ r ∈ B.rows.take s ++ new ++ B.rows.drop (s + new.length),r.length = B.sz:=fun r hr => by
  simp only [List.mem_append] at hr
  rcases hr with (hr | hr) | hr
  ·exact (hB.rows' hm') r (List.mem_of_mem_take hr)
  ·exact hs r hr
  ·exact (hB.rows' hm') r (List.mem_of_mem_drop hr)
 have hlen:(B.rows.take s ++ new ++ B.rows.drop (s + new.length)).length = max B.rows.length (s + new.length):=by
  simp only [List.length_append,List.length_take,List.length_drop]; omega
 have hmax:(max B.rows.length (s + new.length)) * B.sz = max (B.rows.length * B.sz) ((s + new.length) * B.sz):=by
  rcases Nat.le_total B.rows.length (s + new.length) with g | g
  ·rw [Nat.max_eq_right g,Nat.max_eq_right (Nat.mul_le_mul_right _ g)]
  ·rw [Nat.max_eq_left g,Nat.max_eq_left (Nat.mul_le_mul_right _ g)]
 generalize hcs':cur.toList.take (off + s * B.sz) ++ xs ++ cur.toList.drop (off + s * B.sz + xs.length) = cs' at hst hcs
 have hl':cs'.length = cur.size:=by rw [← hcs']; simp only [List.length_append,List.length_take,List.length_drop,Array.length_toList]; omega
 obtain ⟨j1,j2⟩:=inv.writeFlat hb hf hm' (cs:=cur) (e:=e) (by rw [hρ]; exact g1) hl' hrows (by rw [hρ,hlen,hmax]; simp only; omega) (by rw [hρ]; exact hcs)
 rw [hρ] at j1 j2
 exact ⟨_,hst,j1,j2⟩
theorem run_append {P : Program} {t1 t2 ty el : TypeId} {ats : Array TypeId} (ha : ats[0]? = some t1) (hb : ats[1]? = some t2) (hu : P.underlying t1 = some (.slice el)) {d2 : TypeDesc} (hu2 : P.underlying t2 = some d2)
    (hd2:∀ k,d2 ≠ .int k) {i:TypeInfo} (hi:P.info? el = some i) {zv:Value} (hz:i.zero = some zv) {base:Option Addr} {sLen sCap n:Nat} {b:Value} {xs:List Value}
    (hlen:(Builtin.lenOf b).run P w = .ok n w) (hf:∀ w':World,w'.heap = w.heap → (Builtin.firstCells (P.cellsOf el) n b).run P w' = .ok xs.toArray w') :
    (sLen + n ≤ sCap → (Builtin.append_ ats ty #[.slice base sLen sCap, b]).run P w =
      (match base with | some a => (storeCells (a.add (sLen * P.cellsOf el)) xs).run P w | none => .ok () w).andThen fun _ w' => .ok (.slice base (sLen + n) sCap) w') ∧
    (∀ olds : List Value, sCap < sLen + n → ((sLen + n : Nat) : Int) ≤ IntKind.i64.max → Builtin.nextslicecap (sLen + n) sCap * P.bytesOf el ≤ 281474976710656 →
      (∀ w':World,w'.heap = w.heap → (Builtin.firstCells (P.cellsOf el) sLen (.slice base sLen sCap)).run P w' = .ok olds.toArray w') →
      (Builtin.append_ ats ty #[.slice base sLen sCap, b]).run P w = .ok (.slice (some ⟨w.heap.size, 0, none⟩) (sLen + n) (grownCap w (sLen + n) sCap el))
        (w.drew.alloc (Obj.cells ((olds ++ xs).toArray ++ Builtin.zeroCells zv.cells (grownCap w (sLen + n) sCap el - (sLen + n))) el))):=by
  have hnz:(match d2 with | .int _ => true | _ => false) = false:=by cases d2 <;> first | rfl | exact absurd rfl (hd2 _)
  have hmt : ((underlying t2 >>= fun d => pure (match d with | .int _ => true | _ => false)) : Sem Bool).run P w = .ok false w := by
    rw [Sem.run_bind,run_underlying hu2]; simp [hnz]
  have hby:i.bytes = P.bytesOf el:=by simp [Program.bytesOf,hi]
  constructor
  · intro hle
    cases base with
    | none =>
      simp only [Builtin.append_,ha,hb]
      simp [run_underlying hu,run_underlying hu2,run_sizeOf hi,hnz,hlen,hle,hf w rfl]
    | some a =>
      simp only [Builtin.append_,ha,hb]
      simp [run_underlying hu,run_underlying hu2,run_sizeOf hi,hnz,hlen,hle,hf w rfl]
  · intro olds hlt h63 hcap hold
    have hn:¬ (sLen + n ≤ sCap):=by omega
    have hm:IntKind.i64.max = 9223372036854775807:=by decide
    rw [hm] at h63
    have h63':¬ (9223372036854775807 < ((sLen:Int) + (n:Int))):=by omega
    have h48':¬ (281474976710656 < Builtin.nextslicecap (sLen + n) sCap * i.bytes):=by rw [hby]; omega
    have hfo:=hold w.drew rfl
    have hf':=hf w.drew rfl
    simp only [Builtin.append_,ha,hb]
    simp [run_underlying hu,run_underlying hu2,run_sizeOf hi,hlen,hn,hm,typeInfo,zeroValue,hi,hz,h63',h48',Question.forced,hf',hfo,newRow,grownCap]
    congr 2
    apply Array.ext'
    simp
theorem Inv.rename (inv:Inv σ K H w) {l s m:Nat} {B:Blk} (hb:H.blk l = some B) (hf:H.floor ≤ l) (hm':¬ tagM (K.ρ l)) (hsm:s + m ≤ B.rows.length) :
  ∃ K',Inv σ K' ((H.kill l).add ⟨B.sz,(B.rows.drop s).take m⟩) w ∧ Evo K H w K' ((H.kill l).add ⟨B.sz,(B.rows.drop s).take m⟩) w ∧ K'.nx = K.nx + 1 ∧ K'.ρ K.nx = ((K.ρ l).1,(K.ρ l).2.1 + s * B.sz,B.sz) ∧ K'.D K.nx:=by
 let K':Ctx:=⟨K.I,fun x => if x = K.nx then ((K.ρ l).1,(K.ρ l).2.1 + s * B.sz,B.sz) else K.ρ x,K.nx + 1,fun l => K.D l ∨ l = K.nx⟩
 have hB:=inv.blk l B hb
 have hlnx:l < H.next:=by rw [← inv.nx]; exact inv.dom l hB.lt
 have ρo:∀ x,x ≠ H.next → K'.ρ x = K.ρ x:=fun x e => by show (if x = K.nx then _ else _) = _; rw [if_neg (by rw [inv.nx]; exact e)]
 have ρn:K'.ρ H.next = ((K.ρ l).1,(K.ρ l).2.1 + s * B.sz,B.sz):=by show (if H.next = K.nx then _ else _) = _; rw [if_pos inv.nx.symm]
 have old:∀ x B',((H.kill l).add ⟨B.sz,(B.rows.drop s).take m⟩).blk x = some B' → x ≠ H.next → x ≠ l ∧ H.blk x = some B':=fun x B' h e => by
  have h1:(if x = H.next then some (⟨B.sz,(B.rows.drop s).take m⟩:Blk) else if x = l then none else H.blk x) = some B':=h
  rw [if_neg e] at h1
  by_cases e':x = l
  ·rw [if_pos e'] at h1; cases h1
  ·rw [if_neg e'] at h1; exact ⟨e',h1⟩
 have new:∀ B',((H.kill l).add ⟨B.sz,(B.rows.drop s).take m⟩).blk H.next = some B' → B' = ⟨B.sz,(B.rows.drop s).take m⟩:=fun B' h => by
  have h1:(if H.next = H.next then some (⟨B.sz,(B.rows.drop s).take m⟩:Blk) else _) = some B':=h
  rw [if_pos rfl] at h1
  injection h1 with h1
  exact h1.symm
 have evo:Evo K H w K' ((H.kill l).add ⟨B.sz,(B.rows.drop s).take m⟩) w:={
  I:=fun _ h => h
  ρ:=fun x hx => ρo x (by have:=inv.dom x hx; rw [inv.nx] at this; omega)
  D:=fun _ h => .inl h
  nx:=Nat.le_succ _
  floor:=rfl
  low:=fun x h1 h2 => by
   show (if x = H.next then _ else if x = l then none else H.blk x) = _
   rw [if_neg (by omega),if_neg (by omega)]
  frame:=fun _ _ _ => rfl
  shape:=fun b cs e f h => ⟨cs,f,h,rfl⟩
  size:=Nat.le_refl _
  os:=rfl
  tape:=rfl
  output:=rfl
  range:=fun x B' h _ => by
   by_cases e:x = H.next
   ·subst e
    exact ⟨l,B,hb,by rw [ρn],.inr hf⟩
   ·obtain ⟨_,h2⟩:=old x B' h e
    exact ⟨x,B',h2,by rw [ρo x e],.inl rfl⟩
  newI:=fun _ h _ => h
  newD:=fun l h hlt => h.resolve_right (by omega) }
 have mv:=inv.moves evo
 refine ⟨K',⟨by show K.nx + 1 = H.next + 1; rw [inv.nx],fun l h => by show l < K.nx + 1; rcases h with h | h; (have:=inv.dom l h; omega); omega,Nat.le_succ_of_le inv.flo,?_,?_,fun b hb => inv.imm b hb⟩,evo,rfl,by rw [inv.nx]; exact ρn,.inr rfl⟩
 ·intro x B' h
  by_cases e:x = H.next
  ·subst e
   have:=new B' h
   subst this
   obtain ⟨cs,e0,g1,g2,g3⟩:=hB.flat hm'
   have hmul:(s + m) * B.sz ≤ B.rows.length * B.sz:=Nat.mul_le_mul_right _ hsm
   rw [Nat.add_mul] at hmul
   have hs:∀ r ∈ (B.rows.drop s).take m,r.length = B.sz:=fun r hr => (hB.rows' hm') r (List.mem_of_mem_drop (List.mem_of_mem_take hr))
   have hlen:((B.rows.drop s).take m).length = m:=by rw [List.length_take,List.length_drop]; omega
   refine .mk0 (.inr inv.nx.symm) (by rw [ρn]) (by rw [ρn]; exact hB.own) hs ⟨cs,e0,by rw [ρn]; exact g1,by rw [ρn]; simp only [hlen]; omega,?_⟩ (by
    rw [ρn]
    have hz:=hB.sz
    intro t
    obtain ⟨t1,t2⟩:=t
    simp only at t1 t2
    refine hm' ⟨?_,by rw [hz]; exact t2⟩
    rw [t2] at t1
    simpa using t1)
   rw [ρn]
   simp only
   have hc:CellsAt σ K w (fun k => cs.toList[k]?) ((K.ρ l).2.1 + s * B.sz) ((B.rows.drop s).take m).flatten:=by
    rw [flatten_take _ (fun r hr => (hB.rows' hm') r (List.mem_of_mem_drop hr)),flatten_drop _ (hB.rows' hm')]
    exact (g3.drop _).take _
   have:=(rows_flat hs).2 (hc.mono mv)
   simpa using this
  ·obtain ⟨_,h2⟩:=old x B' h e
   have h0:=inv.blk x B' h2
   exact h0.keep mv (.inl h0.lt) (ρo x e) rfl h0.own
 ·intro x y Bx By hx hy he
  by_cases ex:x = H.next <;> by_cases ey:y = H.next
  ·rw [ex,ey]
  ·subst ex
   obtain ⟨ny,hy2⟩:=old y By hy ey
   rw [ρn,ρo y ey] at he
   exact absurd (inv.inj _ _ _ _ hb hy2 he).symm ny
  ·subst ey
   obtain ⟨nx,hx2⟩:=old x Bx hx ex
   rw [ρn,ρo x ex] at he
   exact absurd (inv.inj _ _ _ _ hx2 hb he) nx
  ·obtain ⟨_,hx2⟩:=old x Bx hx ex
   obtain ⟨_,hy2⟩:=old y By hy ey
   rw [ρo x ex,ρo y ey] at he
   exact inv.inj _ _ _ _ hx2 hy2 he
theorem kill_set (H:Heap) (l:Nat) (b:Blk):(H.set l b).kill l = H.kill l:=by
 unfold Heap.set Heap.kill
 congr 1
 funext x
 by_cases e:x = l
 ·simp [e]
 ·simp [e]
theorem grow_ok (inv:Inv σ K H w) {el:TypeId} {zv:Value} {sz need sCap:Nat} (hzs:zv.cells.size = sz) (rows:List (List V)) (hn:rows.length = need) (hs:∀ r ∈ rows,r.length = sz) (xs:List Value)
  (hx:xs.length = need * sz) (hr:∀ (j:Nat) c x,rows.flatten[j]? = some c → xs[j]? = some x → Rel σ K w c x) (hc:∀ c ∈ rows.flatten,c.isCell = true) :
  ∃ K',Inv σ K' (H.add ⟨sz,rows⟩) (w.drew.alloc (Obj.cells (xs.toArray ++ Builtin.zeroCells zv.cells (grownCap w need sCap el - need)) el)) ∧
   Evo K H w K' (H.add ⟨sz,rows⟩) (w.drew.alloc (Obj.cells (xs.toArray ++ Builtin.zeroCells zv.cells (grownCap w need sCap el - need)) el)) ∧
   Rel σ K' (w.drew.alloc (Obj.cells (xs.toArray ++ Builtin.zeroCells zv.cells (grownCap w need sCap el - need)) el)) (.ref H.next sz 0 need need false) (.slice (some ⟨w.heap.size,0,none⟩) need (grownCap w need sCap el)):=by
 obtain ⟨d1,d2⟩:=inv.drew
 have hge:=grownCap_ge w need sCap el
 have hfl:=flatten_length rows hs
 subst hn
 obtain ⟨K',j1,j2,j3⟩:=newRows_ok d1 el sz rows (xs.toArray ++ Builtin.zeroCells zv.cells (grownCap w rows.length sCap el - rows.length)) (grownCap w rows.length sCap el) false hs hge
  (by simp only [Array.size_append,List.size_toArray,size_zeroCells,hzs,hx,← Nat.add_mul]; exact Nat.mul_le_mul_right _ (by omega)) (fun h => by cases h)
  (fun j c hj => by
   have hlt:j < xs.length:=by rw [hx,← hfl]; exact (List.getElem?_eq_some_iff.1 hj).1
   refine ⟨hc c (List.mem_of_getElem? hj),xs[j],?_,(hr j c _ hj (List.getElem?_eq_getElem hlt)).mono (inv.moves d2)⟩
   simp [List.getElem?_append_left hlt,hlt])
 exact ⟨K',j1,Evo.trans inv d1 d2 j2,j3⟩
theorem nextslicecap_fits {need old bytes:Nat} (h:old < need) (hb:need * bytes ≤ room):Builtin.nextslicecap need old * bytes ≤ 281474976710656:=growslice_fits h hb
theorem ok_append (inv : Inv σ K H w) {t1 t2 ty el : TypeId} {ats : Array TypeId} (ha : ats[0]? = some t1) (hb : ats[1]? = some t2) (hu : C.P.underlying t1 = some (.slice el)) {d2 : TypeDesc} (hu2 : C.P.underlying t2 = some d2)
    (hd2:∀ k,d2 ≠ .int k) {z:List V} (hz:zeroC C.P el = some z) (hzl:z.length = C.P.cellsOf el) (hby:0 < C.P.bytesOf el) {x y:V} {a b:Value} (hx:Rel σ K w x a) (hy:Rel σ K w y b)
    (h:appV (C.P.cellsOf el) (C.P.bytesOf el) x y H = some (v,H')) :
    ∃ c w' K',(Builtin.append_ ats ty #[a,b]).run C.P w = .ok c w' ∧ Rel σ K' w' v c ∧ Inv σ K' H' w' ∧ Evo K H w K' H' w':=by
  obtain ⟨i,zv,hi,hzv,hrz⟩:=zeroC_rel (σ:=σ) (K:=K) (w:=w) hz
  have hzs:zv.cells.size = C.P.cellsOf el:=by rw [← agg_size hrz,hzl]
  have hroom:room = 140737488355328:=rfl
  have hmx:IntKind.i64.max = 9223372036854775807:=by decide
  unfold appV at h
  cases hit:itemsV (C.P.cellsOf el) y H with
  | none => rw [hit] at h; simp at h
  | some items =>
  rw [hit] at h
  simp only [Option.bind_some] at h
  obtain ⟨xs,i1,i2,i2',i3,i4,i5,i6,i7⟩:=items_ok (C:=C) inv hy hit
  have same : ∀ (base : Option Addr) (n cap : Nat), a = .slice base n cap → n ≤ cap → items = [] → ∃ c w' K', (Builtin.append_ ats ty #[a, b]).run C.P w = .ok c w' ∧ Rel σ K' w' x c ∧ Inv σ K' H w' ∧ Evo K H w K' H w' := by
    intro base n cap ea hle h0
    subst ea; subst h0
    have hxs:xs = []:=List.eq_nil_of_length_eq_zero (by simpa using i4)
    subst hxs
    obtain ⟨r1,_⟩:=run_append (w:=w) (ty:=ty) (base:=base) (sLen:=n) (sCap:=cap) ha hb hu hu2 hd2 hi hzv (i1 w) i2
    have:=r1 (by simpa using hle)
    refine ⟨.slice base n cap,w,K,?_,hx,inv,.refl _ _ _⟩
    rw [this]
    cases base <;> simp [storeCells]
  have fresh : ∀ (base : Option Addr), a = .slice base 0 0 → items ≠ [] → items.length * C.P.bytesOf el ≤ room →
      ∃ c w' K',(Builtin.append_ ats ty #[a,b]).run C.P w = .ok c w' ∧ Rel σ K' w' (.ref H.next (C.P.cellsOf el) 0 items.length items.length false) c ∧ Inv σ K' (H.add ⟨C.P.cellsOf el,items⟩) w' ∧ Evo K H w K' (H.add ⟨C.P.cellsOf el,items⟩) w':=by
    intro base ea hne hbyt
    subst ea
    have hpos:0 < items.length:=List.length_pos_iff.2 hne
    obtain ⟨_,r2⟩:=run_append (w:=w) (ty:=ty) (base:=base) (sLen:=0) (sCap:=0) ha hb hu hu2 hd2 hi hzv (i1 w) i2
    have hle:items.length ≤ room:=Nat.le_trans (Nat.le_mul_of_pos_right _ hby) hbyt
    have:=r2 [] (by omega) (by rw [hmx]; omega) (nextslicecap_fits (by omega) (by simpa using hbyt)) (fun w' _ => by cases base <;> simp [Builtin.firstCells,loadCells,loadCellsFrom])
    simp only [Nat.zero_add,List.nil_append] at this
    obtain ⟨K',j1,j2,j3⟩:=grow_ok inv (el:=el) (sCap:=0) hzs items rfl i3 xs i4 i5 i6
    exact ⟨_,_,K',this,j3,j1,j2⟩
  unfold appR at h
  cases hx':hx with
  | nils =>
    cases hit0:items with
    | nil => rw [hit0] at h; simp only [Option.some.injEq,Prod.mk.injEq] at h; obtain ⟨rfl,rfl⟩:=h; exact same none 0 0 rfl (Nat.le_refl _) hit0
    | cons r rs =>
      rw [hit0] at h
      simp only at h
      rw [← hit0] at h
      split at h
      · rename_i hbyt
        simp only [newRows,Option.some.injEq,Prod.mk.injEq] at h
        obtain ⟨rfl,rfl⟩:=h
        exact fresh none rfl (by rw [hit0]; simp) hbyt
      · cases h
  | emp ad =>
    cases hit0:items with
    | nil => rw [hit0] at h; simp only [Option.some.injEq,Prod.mk.injEq] at h; obtain ⟨rfl,rfl⟩:=h; exact same (some ad) 0 0 rfl (Nat.le_refl _) hit0
    | cons r rs =>
      rw [hit0] at h
      simp only at h
      rw [← hit0] at h
      split at h
      · rename_i hbyt
        simp only [newRows,Option.some.injEq,Prod.mk.injEq] at h
        obtain ⟨rfl,rfl⟩:=h
        exact fresh (some ad) rfl (by rw [hit0]; simp) hbyt
      · cases h
  | imm0 sz' ad cap =>
    simp only at h
    split at h
    · rename_i h0
      simp only [Option.some.injEq,Prod.mk.injEq] at h
      obtain ⟨rfl,rfl⟩:=h
      exact same (some ad) 0 cap rfl (Nat.zero_le _) h0
    · cases h
  | imm sz' rows blk off cap val hI hcap hs hc hw hr =>
    simp only at h
    split at h
    · rename_i h0
      simp only [Option.some.injEq,Prod.mk.injEq] at h
      obtain ⟨rfl,rfl⟩:=h
      exact same (some _) rows.length cap rfl hcap h0
    · cases h
  | ref l sz' s n c ex ad cap blk off hl hρ hn hcc hex hadr hmt =>
    have hm':=tag_not hρ hmt
    cases hit0:items with
    | nil => rw [hit0] at h; simp only [Option.some.injEq,Prod.mk.injEq] at h; obtain ⟨rfl,rfl⟩:=h; exact same (some ad) n cap rfl (by omega) hit0
    | cons r rs =>
      rw [hit0] at h
      simp only at h
      rw [← hit0] at h
      have hpos:0 < items.length:=by rw [hit0]; simp
      split at h
      · rename_i hz'
        subst hz'
        cases hB:H.blk l with
        | none => rw [hB] at h; simp at h
        | some B =>
          rw [hB] at h
          simp only [Option.bind_some] at h
          have hBB:=inv.blk l B hB
          have hsz:B.sz = C.P.cellsOf el:=by have:=hBB.sz; rw [hρ] at this; exact this.symm
          split at h
          · rename_i hsn
            split at h
            ·
              rename_i hfit
              split at h
              · rename_i hfl
                simp only [Option.some.injEq,Prod.mk.injEq] at h
                obtain ⟨rfl,rfl⟩:=h
                obtain ⟨rfl,hrm⟩:=hadr (by omega)
                have hrm' : roomAt w blk (off + (s + n + items.length) * B.sz) := by
                  obtain ⟨cs,e',f,q1,q2⟩:=hrm
                  rw [hsz]
                  exact ⟨cs,e',f,q1,Nat.le_trans (Nat.add_le_add_left (Nat.mul_le_mul_right _ (by omega)) _) q2⟩
                obtain ⟨w',k1,k2,k3⟩:=write_seg (C:=C) inv hB hfl (by rw [hsz]; exact hρ) hm' (s:=s + n) items xs (by rw [hsz]; exact i3) hsn (by rw [hsz]; exact i4) i5 i6 i7 hrm'
                obtain ⟨r1,_⟩:=run_append (w:=w) (ty:=ty) (base:=some ⟨blk,off + s * C.P.cellsOf el,none⟩) (sLen:=n) (sCap:=cap) ha hb hu hu2 hd2 hi hzv (i1 w) i2
                have:=r1 (by omega)
                have hadd : (⟨blk, off + s * C.P.cellsOf el, none⟩ : Addr).add (n * C.P.cellsOf el) = ⟨blk, off + (s + n) * B.sz, none⟩ := by
                  rw [hsz,Nat.add_mul,← Nat.add_assoc]; unfold Addr.add; split <;> simp_all
                refine ⟨.slice (some ⟨blk,off + s * C.P.cellsOf el,none⟩) (n + items.length) cap,w',K,?_,?_,k2,k3⟩
                · rw [this]; simp only [hadd,k1,Result.andThen_ok]
                · exact (Rel.ref l _ s (n + items.length) c ex _ cap blk off hl hρ hfit hcc hex hadr hmt).mono (inv.moves k3)
              · cases h
            · rename_i hfit
              split at h
              · rename_i hbyt
                have hold:=items_ok (C:=C) inv hx (items:=(B.rows.drop s).take n) (sz:=C.P.cellsOf el) (by simp [itemsV,hB,hsn])
                obtain ⟨os,_,o2,_,o3,o4,o5,o6,_⟩:=hold
                have hol:((B.rows.drop s).take n).length = n:=by rw [List.length_take,List.length_drop]; omega
                rw [hol] at o2 o4
                have hle:n + items.length ≤ room:=Nat.le_trans (Nat.le_mul_of_pos_right _ hby) hbyt
                have grow : ∀ {H1 : Heap}, Inv σ K H1 w → cap < n + items.length →
                    ∃ cc w' K', (Builtin.append_ ats ty #[.slice (some ad) n cap, b]).run C.P w = .ok cc w' ∧ Rel σ K' w' (.ref H1.next (C.P.cellsOf el) 0 (n + items.length) (n + items.length) false) cc ∧
                      Inv σ K' (H1.add ⟨C.P.cellsOf el,(B.rows.drop s).take n ++ items⟩) w' ∧ Evo K H1 w K' (H1.add ⟨C.P.cellsOf el,(B.rows.drop s).take n ++ items⟩) w':=by
                  intro H1 inv1 hlt
                  obtain ⟨_,r2⟩:=run_append (w:=w) (ty:=ty) (base:=some ad) (sLen:=n) (sCap:=cap) ha hb hu hu2 hd2 hi hzv (i1 w) i2
                  have:=r2 os hlt (by rw [hmx]; omega) (nextslicecap_fits hlt hbyt) o2
                  obtain ⟨K', j1, j2, j3⟩ := grow_ok inv1 (el := el) (sCap := cap) hzs ((B.rows.drop s).take n ++ items) (need := n + items.length) (by rw [List.length_append, hol])
                    (fun r hr => by rcases List.mem_append.1 hr with hr | hr; exact o3 r hr; exact i3 r hr) (os ++ xs) (by rw [List.length_append,o4,i4,Nat.add_mul])
                    (fun j cc xx hj hxx => by
                      have hfo:=flatten_length _ o3
                      rw [hol] at hfo
                      rw [List.flatten_append] at hj
                      by_cases g:j < n * C.P.cellsOf el
                      · rw [List.getElem?_append_left (by omega)] at hj hxx
                        exact o5 j cc xx hj hxx
                      · rw [List.getElem?_append_right (by omega)] at hj hxx
                        rw [hfo] at hj
                        rw [o4] at hxx
                        exact i5 _ cc xx hj hxx)
                    (fun cc hcc' => by rw [List.flatten_append] at hcc'; rcases List.mem_append.1 hcc' with hh | hh; exact o6 cc hh; exact i6 cc hh)
                  exact ⟨_,_,K',this,j3,j1,j2⟩
                cases ex with
                | true =>
                  simp only [if_true,newRows,Option.some.injEq,Prod.mk.injEq] at h
                  obtain ⟨rfl,rfl⟩:=h
                  rw [List.length_append,hol]
                  exact grow inv (by have:=hex rfl; omega)
                | false =>
                  simp only [Bool.false_eq_true,if_false] at h
                  split at h
                  · rename_i hfl
                    simp only [newRows,Option.some.injEq,Prod.mk.injEq] at h
                    obtain ⟨rfl,rfl⟩:=h
                    rw [List.length_append,hol]
                    by_cases hin:n + items.length ≤ cap
                    ·
                      obtain ⟨rfl,hrm⟩:=hadr (by omega)
                      have hrm' : roomAt w blk (off + (s + n + items.length) * B.sz) := by
                        obtain ⟨cs,e',f,q1,q2⟩:=hrm
                        rw [hsz]
                        exact ⟨cs,e',f,q1,Nat.le_trans (Nat.add_le_add_left (Nat.mul_le_mul_right _ (by omega)) _) q2⟩
                      obtain ⟨w',k1,k2,k3⟩:=write_seg (C:=C) inv hB hfl (by rw [hsz]; exact hρ) hm' (s:=s + n) items xs (by rw [hsz]; exact i3) hsn (by rw [hsz]; exact i4) i5 i6 i7 hrm'
                      obtain ⟨r1,_⟩:=run_append (w:=w) (ty:=ty) (base:=some ⟨blk,off + s * C.P.cellsOf el,none⟩) (sLen:=n) (sCap:=cap) ha hb hu hu2 hd2 hi hzv (i1 w) i2
                      have hrun:=r1 hin
                      have hadd : (⟨blk, off + s * C.P.cellsOf el, none⟩ : Addr).add (n * C.P.cellsOf el) = ⟨blk, off + (s + n) * B.sz, none⟩ := by
                        rw [hsz,Nat.add_mul,← Nat.add_assoc]; unfold Addr.add; split <;> simp_all
                      let B1:Blk:=⟨B.sz,B.rows.take (s + n) ++ items ++ B.rows.drop (s + n + items.length)⟩
                      have hb1:(H.set l B1).blk l = some B1:=by show (if l = l then _ else _) = _; rw [if_pos rfl]
                      have hl1 : s + (n + items.length) ≤ B1.rows.length := by
                        show _ ≤ (B.rows.take (s + n) ++ items ++ B.rows.drop (s + n + items.length)).length
                        simp only [List.length_append,List.length_take,List.length_drop]; omega
                      obtain ⟨K',m1,m2,m3,m4,m5⟩:=Inv.rename k2 hb1 hfl hm' hl1
                      have hrow : (B1.rows.drop s).take (n + items.length) = (B.rows.drop s).take n ++ items := by
                        show ((B.rows.take (s + n) ++ items ++ B.rows.drop (s + n + items.length)).drop s).take (n + items.length) = _
                        have ht:(B.rows.take (s + n)).length = s + n:=by rw [List.length_take]; omega
                        rw [List.append_assoc,List.drop_append,ht,show s - (s + n) = 0 by omega,List.drop_zero,List.drop_take,show s + n - s = n by omega,List.take_append,hol,show n + items.length - n = items.length by omega,List.take_of_length_le (by rw [hol]; omega),List.take_append,List.take_of_length_le (Nat.le_refl _)]
                        simp
                      rw [hrow,kill_set] at m1 m2
                      have hBz:B1.sz = C.P.cellsOf el:=hsz
                      have hE:=Evo.trans inv k2 k3 m2
                      rw [hBz] at m1 hE m4
                      refine ⟨.slice (some ⟨blk,off + s * C.P.cellsOf el,none⟩) (n + items.length) cap,w',K',?_,?_,m1,hE⟩
                      · rw [hrun]; simp only [hadd,k1,Result.andThen_ok]
                      · have hnx : K.nx = H.next := inv.nx
                        rw [hρ] at m4
                        simp only at m4
                        rw [hnx] at m4 m5
                        exact .ref _ _ 0 _ _ false _ cap blk (off + s * C.P.cellsOf el) m5 m4 (Nat.le_refl _) hin (fun h => by cases h) (fun _ => ⟨by simp, by
                          have:=hrm.mono k3.shape
                          obtain ⟨cs,e',f,q1,q2⟩:=this
                          exact ⟨cs,e',f,q1,by rw [Nat.add_mul] at q2; rw [Nat.zero_add]; omega⟩⟩) (by
                          rintro ⟨t1,t2⟩
                          rw [t2] at t1
                          exact hmt ⟨by simpa using t1,t2⟩)
                    · obtain ⟨k1,k2⟩:=inv.kill hfl
                      obtain ⟨cc,w',K',q1,q2,q3,q4⟩:=grow k1 (by omega)
                      exact ⟨cc,w',K',q1,q2,q3,Evo.trans inv k1 k2 q4⟩
                  · cases h
              · cases h
          · cases h
      · cases h
  | _ => simp at h
theorem ok_copy (inv : Inv σ K H w) {t1 ty el : TypeId} {ats : Array TypeId} (ha : ats[0]? = some t1) (hu : C.P.underlying t1 = some (.slice el)) {i : TypeInfo} (hi : C.P.info? el = some i) {x y : V} {a b : Value} (hx : Rel σ K w x a) (hy : Rel σ K w y b)
    (h:copyV (C.P.cellsOf el) x y H = some (v,H')) :
    ∃ c w' K',(Builtin.copy_ ats ty #[a,b]).run C.P w = .ok c w' ∧ Rel σ K' w' v c ∧ Inv σ K' H' w' ∧ Evo K H w K' H' w':=by
  unfold copyV at h
  cases hit:itemsV (C.P.cellsOf el) y H with
  | none => rw [hit] at h; simp at h
  | some items =>
  rw [hit] at h
  simp only [Option.bind_some] at h
  obtain ⟨xs,i1,i2,i2',i3,i4,i5,i6,i7⟩:=items_ok (C:=C) inv hy hit
  cases hx with
  | nils =>
    simp only [Option.some.injEq,Prod.mk.injEq] at h
    obtain ⟨rfl,rfl⟩:=h
    have:=i2' 0 (Nat.zero_le _) w rfl
    exact ⟨goInt 0,w,K,by simp [Builtin.copy_,ha,run_underlying hu,i1 w,run_sizeOf hi,Nat.min_def,this],.int _ _,inv,.refl _ _ _⟩
  | emp ad =>
    simp only [Option.some.injEq,Prod.mk.injEq] at h
    obtain ⟨rfl,rfl⟩:=h
    have:=i2' 0 (Nat.zero_le _) w rfl
    exact ⟨goInt 0,w,K,by simp [Builtin.copy_,ha,run_underlying hu,i1 w,run_sizeOf hi,Nat.min_def,this,storeCells],.int _ _,inv,.refl _ _ _⟩
  | sub l i' o n c blk off z hl hρ hmt =>
    have hm':=tag_not hρ hmt
    simp only at h
    split at h
    case isFalse => cases h
    rename_i hh
    obtain ⟨hz1,hfl⟩:=hh
    cases hB:H.blk l with
    | none => rw [hB] at h; simp at h
    | some B =>
    cases hr:B.rows[i']? with
    | none => rw [hB] at h; simp [hr] at h
    | some r =>
    rw [hB] at h
    simp only [Option.bind_some,hr] at h
    split at h
    case isFalse => cases h
    rename_i hle
    have hk:min items.length n ≤ items.length:=Nat.min_le_left _ _
    have hkn:min items.length n ≤ n:=Nat.min_le_right _ _
    have hlt:(items.take (min items.length n)).length = min items.length n:=by rw [List.length_take]; omega
    have hfo:(items.take (min items.length n)).flatten = items.flatten.take (min items.length n * C.P.cellsOf el):=flatten_take _ i3 _
    have hfl2:=flatten_length items i3
    have hcl : (items.take (min items.length n)).flatten.length = min items.length n := by
      rw [hfo,List.length_take,hfl2,hz1]; omega
    unfold putRow at h
    rw [if_pos (by omega)] at h
    simp only [Option.bind_some,Option.some.injEq,Prod.mk.injEq] at h
    obtain ⟨rfl,rfl⟩:=h
    have h0:=inv.blk l B hB
    obtain ⟨cur,e,g1,g2,g3⟩:=h0.flat hm'
    have hz:=h0.sz
    rw [hρ] at g1 g2 g3 hz
    simp only at g1 g2 g3 hz
    subst hz
    have hrl:=(h0.rows' hm') r (List.mem_of_getElem? hr)
    have hilt:i' < B.rows.length:=(List.getElem?_eq_some_iff.1 hr).1
    have hflr:=flatten_length B.rows (h0.rows' hm')
    have hmul : i' * B.sz + B.sz ≤ B.rows.length * B.sz := by
      have:(i' + 1) * B.sz ≤ B.rows.length * B.sz:=Nat.mul_le_mul_right _ hilt
      rwa [Nat.succ_mul] at this
    generalize hks:min items.length n = k at *
    generalize hnw:(items.take k).flatten = new at *
    have hxl : (xs.take (k * C.P.cellsOf el)).length = new.length := by
      rw [List.length_take,i4,hcl,hz1]; omega
    have hrx : ∀ (j : Nat) cc xx, new[j]? = some cc → (xs.take (k * C.P.cellsOf el))[j]? = some xx → Rel σ K w cc xx := fun j cc xx hj hxx => by
      rw [hfo,List.getElem?_take] at hj
      rw [List.getElem?_take] at hxx
      split at hj
      · rename_i g; rw [if_pos g] at hxx; exact i5 j cc xx hj hxx
      · cases hj
    have hcells:∀ cc ∈ new,cc.isCell = true:=fun cc hcc => i6 cc (by rw [hfo] at hcc; exact List.mem_of_mem_take hcc)
    have hst:=run_storeCells_lies (P:=C.P) blk (off + i' * B.sz + o) e (xs.take (k * C.P.cellsOf el)) 0 cur w g1 (by rw [hxl]; omega) (fun x hx => i7 x (List.mem_of_mem_take hx))
    have hsp:=g3.splice (new:=new) (vs:=xs.take (k * C.P.cellsOf el)) (i' * B.sz + o) (by rw [hflr]; omega) hxl (by rw [hflr]; simpa using g2) hcells hrx
    rw [← flatten_splice B.rows (h0.rows' hm') i' o r new hr (by omega),← Nat.add_assoc] at hsp
    have hrows : ∀ r' ∈ B.rows.set i' (r.take o ++ new ++ r.drop (o + new.length)), r'.length = B.sz := fun r' h' => by
      rcases List.mem_or_eq_of_mem_set h' with h' | h'
      · exact (h0.rows' hm') r' h'
      · rw [h']; simp; omega
    simp only [Nat.add_zero] at hst
    generalize hcs':cur.toList.take (off + i' * B.sz + o) ++ xs.take (k * C.P.cellsOf el) ++ cur.toList.drop (off + i' * B.sz + o + (xs.take (k * C.P.cellsOf el)).length) = cs' at hst hsp
    have hl':cs'.length = cur.size:=by rw [← hcs']; simp only [List.length_append,List.length_take,List.length_drop,Array.length_toList] at *; omega
    obtain ⟨j1,j2⟩:=inv.writeFlat hB hfl hm' (cs:=cur) (e:=e) (by rw [hρ]; exact g1) hl' hrows (by rw [hρ]; simpa using g2) (by rw [hρ]; exact hsp)
    rw [hρ] at j1 j2
    have hfc:=i2' k (by omega) w rfl
    refine ⟨.int .i64 k,_,K,?_,.int _ _,j1,j2⟩
    simp [Builtin.copy_,ha,run_underlying hu,i1 w,run_sizeOf hi,hfc,hst,hks,goInt]
  | ref l sz' s n c ex ad cap blk off hl hρ hn hcc hex hadr hmt =>
    have hm':=tag_not hρ hmt
    simp only at h
    split at h
    · rename_i hh
      obtain ⟨hz,hfl⟩:=hh
      subst hz
      cases hB:H.blk l with
      | none => rw [hB] at h; simp at h
      | some B =>
        rw [hB] at h
        simp only [Option.bind_some] at h
        have hBB:=inv.blk l B hB
        have hsz:B.sz = C.P.cellsOf el:=by have:=hBB.sz; rw [hρ] at this; exact this.symm
        split at h
        · rename_i hsn
          simp only [Option.some.injEq,Prod.mk.injEq] at h
          obtain ⟨rfl,rfl⟩:=h
          let k:=min items.length n
          have hk:k ≤ items.length:=Nat.min_le_left _ _
          have hkn:k ≤ n:=Nat.min_le_right _ _
          have hlt:(items.take k).length = k:=by rw [List.length_take]; omega
          by_cases h0:cap = 0
          · have hn0 : n = 0 := by omega
            have hk0:min items.length n = 0:=by omega
            have:=i2' 0 (Nat.zero_le _) w rfl
            rw [hk0]
            have hsame : H.set l ⟨B.sz, B.rows.take s ++ items.take 0 ++ B.rows.drop (s + 0)⟩ = H := by
              unfold Heap.set
              have:(⟨B.sz,B.rows.take s ++ items.take 0 ++ B.rows.drop (s + 0)⟩:Blk) = B:=by cases B; simp
              rw [this]
              cases H
              congr 1
              funext x
              by_cases e:x = l
              · simp only [e,if_true]; exact hB.symm
              · simp [e]
            rw [hsame]
            exact ⟨goInt 0,w,K,by simp [Builtin.copy_,ha,run_underlying hu,i1 w,run_sizeOf hi,show items.length.min n = 0 from hk0,this,storeCells],.int _ _,inv,.refl _ _ _⟩
          · obtain ⟨rfl, hrm⟩ := hadr (by omega)
            have hrm' : roomAt w blk (off + (s + (items.take k).length) * B.sz) := by
              obtain ⟨cs,e',f,q1,q2⟩:=hrm
              rw [hsz,hlt]
              exact ⟨cs,e',f,q1,Nat.le_trans (Nat.add_le_add_left (Nat.mul_le_mul_right _ (by omega)) _) q2⟩
            have hfo:(items.take k).flatten = items.flatten.take (k * C.P.cellsOf el):=flatten_take _ i3 _
            have hkm:k * C.P.cellsOf el ≤ items.length * C.P.cellsOf el:=Nat.mul_le_mul_right _ hk
            obtain ⟨w', k1, k2, k3⟩ := write_seg (C := C) inv hB hfl (by rw [hsz]; exact hρ) hm' (s := s) (items.take k) (xs.take (k * C.P.cellsOf el)) (fun r hr => by rw [hsz]; exact i3 r (List.mem_of_mem_take hr)) (by omega)
              (by rw [hsz,hlt,List.length_take,i4]; omega)
              (fun j cc xx hj hxx => by
                rw [hfo,List.getElem?_take] at hj
                rw [List.getElem?_take] at hxx
                split at hj
                · rename_i g; rw [if_pos g] at hxx; exact i5 j cc xx hj hxx
                · cases hj)
              (fun cc hcc' => by rw [hfo] at hcc'; exact i6 cc (List.mem_of_mem_take hcc')) (fun xx hxx => i7 xx (List.mem_of_mem_take hxx)) hrm'
            rw [hlt] at k2 k3
            have hrd:=i2' k hk w rfl
            refine ⟨goInt k,w',K,?_,.int _ _,k2,k3⟩
            rw [hsz] at k1
            have hk1:(storeCells ⟨blk,off + s * C.P.cellsOf el,none⟩ (xs.take (k * C.P.cellsOf el))).run C.P w = .ok () w':=k1
            simp [Builtin.copy_,ha,run_underlying hu,i1 w,run_sizeOf hi,show items.length.min n = k from rfl,hrd,hk1]
        · cases h
    · cases h
  | _ => simp at h
theorem ok_clear (inv : Inv σ K H w) {t1 ty el : TypeId} {ats : Array TypeId} (ha : ats[0]? = some t1) (hu : C.P.underlying t1 = some (.slice el)) {z : List V} (hz : zeroC C.P el = some z) (hzl : z.length = C.P.cellsOf el) (h0 : 0 < C.P.cellsOf el)
    {x:V} {a:Value} (hx:Rel σ K w x a) (h:clearV (C.P.cellsOf el) z x H = some (v,H')) :
    ∃ c w' K',(Builtin.clear_ ats ty #[a]).run C.P w = .ok c w' ∧ Rel σ K' w' v c ∧ Inv σ K' H' w' ∧ Evo K H w K' H' w':=by
  obtain ⟨i,zv,hi,hzv,hrz⟩:=zeroC_rel (σ:=σ) (K:=K) (w:=w) hz
  have hzs:zv.cells.size = C.P.cellsOf el:=by rw [← agg_size hrz,hzl]
  have tup:∀ (K:Ctx) (w:World),Rel σ K w (.tuple []) (.tuple #[]):=fun K w => .tuple [] #[] rfl (fun i a b h => by simp at h)
  unfold clearV at h
  cases hx with
  | nils =>
    simp only [Option.some.injEq,Prod.mk.injEq] at h
    obtain ⟨rfl,rfl⟩:=h
    exact ⟨.tuple #[],w,K,by simp [Builtin.clear_,ha,run_underlying hu],tup _ _,inv,.refl _ _ _⟩
  | emp ad =>
    simp only [Option.some.injEq,Prod.mk.injEq] at h
    obtain ⟨rfl,rfl⟩:=h
    exact ⟨.tuple #[],w,K,by simp [Builtin.clear_,ha,run_underlying hu],tup _ _,inv,.refl _ _ _⟩
  | ref l sz' s n c ex ad cap blk off hl hρ hn hcc hex hadr hmt =>
    have hm':=tag_not hρ hmt
    simp only at h
    split at h
    · rename_i hh
      obtain ⟨hz',hfl⟩:=hh
      subst hz'
      cases hB:H.blk l with
      | none => rw [hB] at h; simp at h
      | some B =>
        rw [hB] at h
        simp only [Option.bind_some] at h
        have hBB:=inv.blk l B hB
        have hsz:B.sz = C.P.cellsOf el:=by have:=hBB.sz; rw [hρ] at this; exact this.symm
        split at h
        · rename_i hsn
          simp only [Option.some.injEq,Prod.mk.injEq] at h
          obtain ⟨rfl,rfl⟩:=h
          by_cases hn0:n = 0
          · subst hn0
            have hsame : H.set l ⟨B.sz, B.rows.take s ++ List.replicate 0 z ++ B.rows.drop (s + 0)⟩ = H := by
              unfold Heap.set
              have:(⟨B.sz,B.rows.take s ++ List.replicate 0 z ++ B.rows.drop (s + 0)⟩:Blk) = B:=by cases B; simp
              rw [this]
              cases H
              congr 1
              funext x
              by_cases e:x = l
              · simp only [e,if_true]; exact hB.symm
              · simp [e]
            rw [hsame]
            exact ⟨.tuple #[],w,K,by simp [Builtin.clear_,ha,run_underlying hu],tup _ _,inv,.refl _ _ _⟩
          · obtain ⟨rfl, hrm⟩ := hadr (by omega)
            have hrm' : roomAt w blk (off + (s + (List.replicate n z).length) * B.sz) := by
              obtain ⟨cs,e',f,q1,q2⟩:=hrm
              rw [hsz,List.length_replicate]
              exact ⟨cs,e',f,q1,Nat.le_trans (Nat.add_le_add_left (Nat.mul_le_mul_right _ (by omega)) _) q2⟩
            have hzr:=zeros_rel hrz (by rw [hzs]; exact h0) n
            have hcl:=agg_cells hzr
            have hzc:Builtin.zeroCells zv.cells n = (Array.range (n * zv.cells.size)).map fun i => zv.cells[i % zv.cells.size]!:=rfl
            obtain ⟨w', k1, k2, k3⟩ := write_seg (C := C) inv hB hfl (by rw [hsz]; exact hρ) hm' (s := s) (List.replicate n z) (Builtin.zeroCells zv.cells n).toList (fun r hr => by rw [hsz, List.eq_of_mem_replicate hr]; exact hzl) (by omega)
              (by rw [hsz,Array.length_toList,size_zeroCells,hzs,List.length_replicate])
              (fun j cc xx hj hxx => by
                rw [hzc] at hxx
                obtain ⟨_,y,q1,q2⟩:=hcl j cc hj
                simp only [Nat.zero_add] at q1
                rw [hxx] at q1
                injection q1 with q1
                subst q1
                exact q2)
              (fun cc hcc' => hcl.cell cc hcc')
              (fun xx hxx => by
                obtain ⟨j,hj⟩:=List.getElem?_of_mem hxx
                rw [hzc] at hj
                have hjl : j < (List.replicate n z).flatten.length := by
                  have:=(List.getElem?_eq_some_iff.1 hj).1
                  rw [agg_size hzr]; simpa using this
                obtain ⟨q0,y,q1,q2⟩:=hcl j _ (List.getElem?_eq_getElem hjl)
                simp only [Nat.zero_add] at q1
                rw [hj] at q1
                injection q1 with q1
                subst q1
                exact q2.oneCell q0) hrm'
            rw [List.length_replicate] at k2 k3
            rw [hsz] at k1
            refine ⟨.tuple #[],w',K,?_,tup _ _,k2,k3⟩
            obtain ⟨n',rfl⟩:∃ n',n = n' + 1:=⟨n - 1,by omega⟩
            simp [Builtin.clear_,ha,run_underlying hu,run_zeroValue hi hzv,k1]
        · cases h
    · cases h
  | _ => simp at h
theorem ok_make (inv : Inv σ K H w) {t el : TypeId} (hu : C.P.underlying t = some (.slice el)) {z : List V} (hz : zeroC C.P el = some z) (hzl : z.length = C.P.cellsOf el) (h0 : 0 < C.P.cellsOf el)
    {x y:V} {a b:Value} (hx:Rel σ K w x a) (hy:Rel σ K w y b) (h:makeV (C.P.cellsOf el) (C.P.bytesOf el) z x y H = some (v,H')) :
    ∃ c w' K',(Instr.makeSlice t a b).run C.P w = .ok c w' ∧ Rel σ K' w' v c ∧ Inv σ K' H' w' ∧ Evo K H w K' H' w':=by
  obtain ⟨i,zv,hi,hzv,hrz⟩:=zeroC_rel (σ:=σ) (K:=K) (w:=w) hz
  have hzs:zv.cells.size = C.P.cellsOf el:=by rw [← agg_size hrz,hzl]
  have hby:i.bytes = C.P.bytesOf el:=by simp [Program.bytesOf,hi]
  have hroom:room = 140737488355328:=rfl
  unfold makeV at h
  cases hn:natOf x with
  | none => rw [hn] at h; simp at h
  | some n =>
  rw [hn] at h
  simp only [Option.bind_some] at h
  cases hc:natOf y with
  | none => rw [hc] at h; simp at h
  | some c =>
  rw [hc] at h
  simp only [Option.bind_some] at h
  split at h
  · rename_i hh
    obtain ⟨hnc,hb1,hb2⟩:=hh
    obtain ⟨k,rfl⟩:=natOf_rel hx hn
    obtain ⟨k',rfl⟩:=natOf_rel hy hc
    have hwrap : ∀ n : Nat, n ≤ room → IntKind.i64.wrap (n : Int) = n := fun n hb2 => by
      have e1:((n:Int) % 2 ^ 64) = n:=Int.emod_eq_of_lt (by omega) (by omega)
      simp only [IntKind.wrap,IntKind.bits,IntKind.signed,e1,Bool.true_and]
      rw [if_neg]
      simp
      omega
    have hwn:=hwrap n (Nat.le_trans hnc hb2)
    have hwc:=hwrap c hb2
    have hbn : ¬ (281474976710656 < ((i.bytes : Nat) : Int) * (c : Int)) := by
      rw [hby]
      have h1:((c * C.P.bytesOf el:Nat):Int) ≤ (140737488355328:Nat):=Int.ofNat_le.2 hb1
      rw [Int.natCast_mul] at h1
      have h2:((C.P.bytesOf el:Nat):Int) * (c:Int) = (c:Int) * ((C.P.bytesOf el:Nat):Int):=Int.mul_comm _ _
      omega
    have hneg:¬ ((n:Int) < 0):=by omega
    have hnegc:¬ ((c:Int) < 0):=by omega
    have hlt:¬ (c < n):=by omega
    have hrun : (Instr.makeSlice t (.int k (n : Int)) (.int k' (c : Int))).run C.P w = .ok (.slice (some ⟨w.heap.size, 0, none⟩) n c) (w.alloc (Obj.cells ((Array.range (c * C.P.cellsOf el)).map fun i => (if c * C.P.cellsOf el = 0 then #[] else zv.cells)[i % (if c * C.P.cellsOf el = 0 then #[] else zv.cells).size]!) el)) := by
      by_cases e:c * C.P.cellsOf el = 0
      · simp [Instr.makeSlice,run_underlying hu,asInt,asIntOf,typeInfo,hi,hwn,hwc,hbn,hneg,hnegc,hlt,run_sizeOf hi,e,newRow]
      · simp [Instr.makeSlice,run_underlying hu,asInt,asIntOf,typeInfo,hi,hwn,hwc,hbn,hneg,hnegc,hlt,run_sizeOf hi,e,newRow,run_zeroValue hi hzv]
    cases c with
    | zero =>
      simp only [Option.some.injEq,Prod.mk.injEq] at h
      obtain ⟨rfl,rfl⟩:=h
      obtain rfl:n = 0:=by omega
      obtain ⟨j1,j2⟩:=inv.junk (Obj.cells ((Array.range (0 * C.P.cellsOf el)).map fun i => (if 0 * C.P.cellsOf el = 0 then #[] else zv.cells)[i % (if 0 * C.P.cellsOf el = 0 then #[] else zv.cells).size]!) el)
      exact ⟨_,_,K,hrun,.emp _,j1,j2⟩
    | succ c =>
      simp only [newCap,Option.some.injEq,Prod.mk.injEq] at h
      obtain ⟨rfl,rfl⟩:=h
      have hne:¬ ((c + 1) * C.P.cellsOf el = 0):=fun e0 => by rcases Nat.mul_eq_zero.1 e0 with e0 | e0 <;> omega
      rw [if_neg hne] at hrun
      have hzr:=zeros_rel hrz (by rw [hzs]; exact h0) (c + 1)
      rw [hzs] at hzr
      have hs:∀ r ∈ List.replicate (c + 1) z,r.length = C.P.cellsOf el:=fun r hr => by rw [List.eq_of_mem_replicate hr]; exact hzl
      obtain ⟨K',j1,j2,j3⟩:=newRows_ok inv el (C.P.cellsOf el) (List.replicate (c + 1) z) _ (c + 1) true hs (by simp) (by simp) (fun _ => by simp) (agg_cells hzr)
      rw [List.length_replicate] at j3
      rw [List.length_replicate]
      rw [hzs] at hrun
      refine ⟨_,_,K',hrun,?_,j1,j2⟩
      cases j3 with
      | ref _ _ _ _ _ _ _ _ b off hl hρ hn' hc' hex ha hmt => exact .ref _ _ _ n _ _ _ _ b off hl hρ hnc hc' hex ha hmt
  · cases h
end
end Go.Fv
