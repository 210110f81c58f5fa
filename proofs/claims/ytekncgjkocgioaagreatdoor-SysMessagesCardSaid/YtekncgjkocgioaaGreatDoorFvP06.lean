/-
  Operations, further: what is built. By an AI agent; no person has read it.
-/
import Derived.Test.YtekncgjkocgioaaGreatDoorFvP05
set_option linter.unusedVariables false
set_option linter.unusedSimpArgs false
set_option linter.unusedSectionVars false
/-! Operations, further: what is built. -/
namespace Go.Fv
open Go
section
variable {C:Cfg} {σ:Nat → Addr} {K:Ctx} {H H':Heap} {w:World} {v:V}
theorem mapM_some {α β:Type} (f:α → Option β) (g:α → β) (h:∀ a,f a = some (g a)):∀ l:List α,l.mapM f = some (l.map g)
 | [] => rfl
 | a :: l => by rw [List.mapM_cons,h,mapM_some f g h l]; rfl
theorem fold_set (off : Nat) : ∀ (vs : List Value) (k : Nat) (cs : Array Value), off + k + vs.length ≤ cs.size →
    ((vs.zipIdx k).foldl (fun cs (x:Value × Nat) => cs.setIfInBounds (off + x.2) x.1) cs).toList = cs.toList.take (off + k) ++ vs ++ cs.toList.drop (off + k + vs.length)
  | [],k,cs,_ => by simp
  | v :: vs, k, cs, h => by
    have ih:=fold_set off vs (k + 1) (cs.setIfInBounds (off + k) v) (by simp at h ⊢; omega)
    rw [List.zipIdx_cons,List.foldl_cons,ih]
    have e:=list_seg_step cs.toList (off + k) v vs (by simp at h ⊢; omega)
    simpa [Array.toList_setIfInBounds,Nat.add_assoc] using e
theorem fill_ok {e : Operand → V} {ρ : Operand → Value} (E : ∀ x, Rel σ K w (e x) (ρ x)) (pl : Nat → Option (Nat × Nat)) : ∀ (ops : List (Nat × Operand)) (ps : List (Nat × Nat × V)),
    (ops.mapM fun p => (pl p.1).map fun os => (os.1,os.2,e p.2)) = some ps → ∀ (l l':List V) (cs:Array Value),Rel σ K w (.agg l) (.agg cs) → fill l ps = some l' →
    ∃ cs',Instr.fill pl cs (ops.map fun p => (p.1,ρ p.2)) = some cs' ∧ Rel σ K w (.agg l') (.agg cs') ∧ cs'.size = cs.size
  | [], ps, hps, l, l', cs, hr, hf => by
    simp at hps
    subst hps
    simp [fill] at hf
    subst hf
    exact ⟨cs,rfl,hr,rfl⟩
  | (i, x) :: ops, ps, hps, l, l', cs, hr, hf => by
    simp only [List.mapM_cons,Option.bind_eq_bind,Option.pure_def] at hps
    cases hpl:pl i with
    | none => rw [hpl] at hps; simp at hps
    | some os =>
      rw [hpl] at hps
      simp only [Option.map_some,Option.bind_some] at hps
      cases hm:ops.mapM fun p => (pl p.1).map fun os => (os.1,os.2,e p.2) with
      | none => rw [hm] at hps; simp at hps
      | some ps' =>
        rw [hm] at hps
        simp only [Option.bind_some,Option.some.injEq] at hps
        subst hps
        simp only [fill] at hf
        cases hc:(e x).cells? with
        | none => rw [hc] at hf; simp at hf
        | some vs =>
          rw [hc] at hf
          simp only [Option.bind_some] at hf
          split at hf
          · rename_i hlen
            unfold putRow at hf
            split at hf
            · rename_i hle
              simp only [Option.bind_some] at hf
              obtain ⟨h1,h2,h3⟩:=(E x).cells hc
              cases hr with
              | agg _ _ hl hcl hrl =>
                have hsz:(ρ x).cells.size = os.2:=by rw [← h1,hlen]
                have hfs:=fold_set os.1 (ρ x).cells.toList 0 cs (by simp; omega)
                simp only [Nat.add_zero] at hfs
                let cs1:Array Value:=(ρ x).cells.zipIdx.foldl (fun cs (y:Value × Nat) => cs.setIfInBounds (os.1 + y.2) y.1) cs
                have hcs1 : cs1.toList = cs.toList.take os.1 ++ (ρ x).cells.toList ++ cs.toList.drop (os.1 + (ρ x).cells.toList.length) := by
                  rw [← hfs]
                  show (Array.foldl _ cs (ρ x).cells.zipIdx).toList = _
                  rw [← Array.foldl_toList,Array.toList_zipIdx]
                have hlen1 : cs1.size = cs.size := by
                  have:=congrArg List.length hcs1
                  simp only [List.length_append,List.length_take,List.length_drop,Array.length_toList] at this
                  omega
                have hr1 : Rel σ K w (.agg (l.take os.1 ++ vs ++ l.drop (os.1 + vs.length))) (.agg cs1) := by
                  refine .agg _ _ (by rw [hlen1]; simp; omega) ?_ ?_
                  · intro a ha
                    simp only [List.mem_append] at ha
                    rcases ha with (ha | ha) | ha
                    · exact hcl a (List.mem_of_mem_take ha)
                    · exact h2 a ha
                    · exact hcl a (List.mem_of_mem_drop ha)
                  · intro j a b ha hb
                    rw [← Array.getElem?_toList,hcs1] at hb
                    rw [splice_get _ _ _ _ hle] at ha
                    rw [splice_get _ _ _ _ (by simp; omega)] at hb
                    simp only [Array.length_toList,← h1] at hb
                    split at ha
                    · rename_i g; rw [if_pos g] at hb; exact hrl j a b ha (by simpa using hb)
                    · rename_i g
                      rw [if_neg g] at hb
                      split at ha
                      · rename_i g'; rw [if_pos g'] at hb; exact h3 _ a b ha (by simpa using hb)
                      · rename_i g'; rw [if_neg g'] at hb; exact hrl j a b ha (by simpa using hb)
                obtain ⟨cs',g1,g2,g3⟩:=fill_ok E pl ops ps' hm _ l' cs1 hr1 hf
                refine ⟨cs',?_,g2,g3.trans hlen1⟩
                simp only [List.map_cons,Instr.fill,hpl,hsz]
                rw [if_neg (by simp; omega)]
                exact g1
            · simp at hf
          · cases hf
theorem zeroC_rel {t : TypeId} {z : List V} (h : zeroC C.P t = some z) : ∃ i zv, C.P.info? t = some i ∧ i.zero = some zv ∧ Rel σ K w (.agg z) (.agg zv.cells) := by
  unfold zeroC at h
  cases hi:C.P.info? t with
  | none => rw [hi] at h; simp at h
  | some i =>
    rw [hi] at h
    simp only [Option.bind_some] at h
    cases hz:i.zero with
    | none => rw [hz] at h; simp at h
    | some zv =>
      rw [hz] at h
      simp only [Option.bind_some] at h
      obtain ⟨h1,h2,h3⟩:=(rel_cstV (σ:=σ) (K:=K) (w:=w) zv).cells h
      exact ⟨i,zv,rfl,hz,.agg z zv.cells h1 h2 h3⟩
theorem run_zeroValue {P:Program} {t:TypeId} {i:TypeInfo} {zv:Value} (hi:P.info? t = some i) (hz:i.zero = some zv) (w:World):(zeroValue t).run P w = .ok zv w:=by
 simp [zeroValue,typeInfo,hi,hz]
theorem run_mapM_places {P : Program} (w : World) : ∀ (fs : List Field), (fs.all fun f => (P.info? f.type).isSome) = true →
    (fs.mapM fun f => do pure (f.offset,← sizeOf f.type):Sem (List (Nat × Nat))).run P w = .ok (fs.map fun f => (f.offset,P.cellsOf f.type)) w
  | [],_ => rfl
  | f :: fs, h => by
    simp only [List.all_cons,Bool.and_eq_true] at h
    obtain ⟨i,hi⟩:=Option.isSome_iff_exists.1 h.1
    have ih:=run_mapM_places w fs h.2
    simp only [List.mapM_cons,Sem.run_bind,run_sizeOf hi,Result.andThen_ok,Sem.run_pure,ih,List.map_cons]
theorem ok_build {t : TypeId} {parts : Array (Nat × Operand)} {e : Operand → V} {ρ : Operand → Value} (E : ∀ x, Rel σ K w (e x) (ρ x)) (h : opV C e (.build t parts) H = some (v, H')) :
    ∃ z,(Instr.build t (parts.map fun (i,x) => (i,ρ x))).run C.P w = .ok z w ∧ Rel σ K w v z ∧ H' = H:=by
  cases hu:C.P.underlying t with
  | none => simp [opV,hu,M.fail] at h
  | some u =>
  cases hz:zeroC C.P t with
  | none => cases u <;> simp [opV,hu,hz,M.fail] at h
  | some z =>
  obtain ⟨i,zv,hi,hzv,hrz⟩:=zeroC_rel (σ:=σ) (K:=K) (w:=w) hz
  have hp:(parts.map fun (x:Nat × Operand) => (x.1,ρ x.2)).toList = parts.toList.map fun p => (p.1,ρ p.2):=by simp
  cases u <;> simp only [opV,hu,hz] at h
  case struct fs =>
    split at h
    · cases h
    · rename_i hall
      have hall:(fs.toList.all fun f => (C.P.info? f.type).isSome) = true:=by simpa only [Bool.not_eq_false] using hall
      generalize hps:(parts.toList.mapM fun p => (fs[p.1]?).map fun f => (f.offset,C.P.cellsOf f.type,e p.2)) = ops at h
      cases ops with
      | none => cases h
      | some ps =>
        obtain ⟨h2,e2⟩:=lift_eq h
        clear h
        subst e2
        have h:=h2
        clear h2
        unfold buildV at h
        cases hf:fill z ps with
        | none => rw [hf] at h; simp at h
        | some l' =>
          rw [hf] at h
          simp only [Option.bind_some,Option.some.injEq] at h
          subst h
          let places:Array (Nat × Nat):=(fs.toList.map fun f => (f.offset,C.P.cellsOf f.type)).toArray
          have hps' : (parts.toList.mapM fun p => (places[p.1]?).map fun os => (os.1, os.2, e p.2)) = some ps := by
            rw [← hps]
            congr 1
            funext p
            simp only [places]
            cases hq:fs[p.1]? <;> simp [hq]
          obtain ⟨cs',g1,g2,_⟩:=fill_ok E (fun i => places[i]?) parts.toList ps hps' z l' zv.cells hrz hf
          refine ⟨.agg cs',?_,g2,rfl⟩
          have hm : (fs.mapM fun f => do pure (f.offset, ← sizeOf f.type) : Sem (Array (Nat × Nat))).run C.P w = .ok places w := by
            rw [Array.mapM_eq_mapM_toList]
            simp only [Sem.run_map,run_mapM_places w fs.toList hall,places,Result.andThen_ok]
          simp only [Instr.build,Sem.run_bind,run_zeroValue hi hzv,Result.andThen_ok,run_underlying hu,hm]
          simp only [hp,g1,Sem.run_pure]
  case array n el =>
    split at h
    · cases h
    · rename_i hall
      obtain ⟨iel,hiel⟩:=Option.isSome_iff_exists.1 (by simpa only [Bool.not_eq_false] using hall)
      obtain ⟨h2,e2⟩:=lift_eq h
      clear h
      subst e2
      have h:=h2
      clear h2
      unfold buildV at h
      cases hf:fill z (parts.toList.map fun p => (p.1 * C.P.cellsOf el,C.P.cellsOf el,e p.2)) with
      | none => rw [hf] at h; simp at h
      | some l' =>
        rw [hf] at h
        simp only [Option.bind_some,Option.some.injEq] at h
        subst h
        have hps' : (parts.toList.mapM fun p => ((some (p.1 * C.P.cellsOf el, C.P.cellsOf el) : Option (Nat × Nat))).map fun os => (os.1, os.2, e p.2)) = some (parts.toList.map fun p => (p.1 * C.P.cellsOf el, C.P.cellsOf el, e p.2)) := by
          exact mapM_some _ _ (fun _ => rfl) _
        obtain ⟨cs',g1,g2,_⟩:=fill_ok E (fun i => some (i * C.P.cellsOf el,C.P.cellsOf el)) parts.toList _ hps' z l' zv.cells hrz hf
        refine ⟨.agg cs',?_,g2,rfl⟩
        simp only [Instr.build,Sem.run_bind,run_zeroValue hi hzv,Result.andThen_ok,run_underlying hu,run_sizeOf hiel]
        simp only [hp,g1,Sem.run_pure]
  all_goals (simp [M.fail] at h)
end
end Go.Fv
namespace Go.Fv
open Go
section
variable {C:Cfg} {σ:Nat → Addr} {K:Ctx} {H H':Heap} {w:World} {v:V}
theorem newRows_okF (fz:Nat × Nat) (inv:Inv σ K H w) (el:TypeId) (sz:Nat) (rows:List (List V)) (cs:Array Value) (hfz:fz = (0,0) ∨ cs.size ≤ fz.1) (cap:Nat) (ex:Bool) (hs:∀ r ∈ rows,r.length = sz)
  (hcap:rows.length ≤ cap) (hsize:cap * sz ≤ cs.size) (hex:ex = true → cap = rows.length) (hc:CellsAt σ K w (fun k => cs.toList[k]?) 0 rows.flatten) :
  ∃ K',Inv σ K' (H.add ⟨sz,rows⟩) (w.alloc (Obj.cells cs el fz)) ∧ Evo K H w K' (H.add ⟨sz,rows⟩) (w.alloc (Obj.cells cs el fz)) ∧
   Rel σ K' (w.alloc (Obj.cells cs el fz)) (.ref H.next sz 0 rows.length rows.length ex) (.slice (some ⟨w.heap.size,0,none⟩) rows.length cap):=by
 have hroom:rows.length * sz ≤ cs.size:=Nat.le_trans (Nat.mul_le_mul_right _ hcap) hsize
 have hc':=(rows_flat hs).2 hc
 obtain ⟨K',i',e',hn,hρ,hD⟩:=inv.addF el sz rows cs fz hfz hs hroom (fun i r j c hi hj => by
  obtain ⟨h1,x,h2,h3⟩:=hc' i r j c hi hj
  exact ⟨h1,x,by simpa using h2,h3⟩)
 refine ⟨K',i',e',.ref _ sz 0 _ _ ex _ cap w.heap.size 0 (by rw [← inv.nx]; exact hD) (by rw [← inv.nx]; exact hρ) (Nat.le_refl _) hcap hex (fun _ => ⟨by simp,cs,el,fz,heap_alloc_new w _,by simpa using hsize⟩) (fun h => absurd h.1 Nat.zero_ne_one)⟩
theorem newRows_ok (inv:Inv σ K H w) (el:TypeId) (sz:Nat) (rows:List (List V)) (cs:Array Value) (cap:Nat) (ex:Bool) (hs:∀ r ∈ rows,r.length = sz)
  (hcap:rows.length ≤ cap) (hsize:cap * sz ≤ cs.size) (hex:ex = true → cap = rows.length) (hc:CellsAt σ K w (fun k => cs.toList[k]?) 0 rows.flatten) :
  ∃ K',Inv σ K' (H.add ⟨sz,rows⟩) (w.alloc (Obj.cells cs el)) ∧ Evo K H w K' (H.add ⟨sz,rows⟩) (w.alloc (Obj.cells cs el)) ∧
   Rel σ K' (w.alloc (Obj.cells cs el)) (.ref H.next sz 0 rows.length rows.length ex) (.slice (some ⟨w.heap.size,0,none⟩) rows.length cap) :=
 newRows_okF (0,0) inv el sz rows cs (.inl rfl) cap ex hs hcap hsize hex hc
theorem zeros_rel {z : List V} {zc : Array Value} (h : Rel σ K w (.agg z) (.agg zc)) (hz : 0 < zc.size) (len : Nat) :
    Rel σ K w (.agg (List.replicate len z).flatten) (.agg ((Array.range (len * zc.size)).map fun i => zc[i % zc.size]!)):=by
  cases h with
  | agg _ _ hl hc hr =>
    have hs:∀ r ∈ List.replicate len z,r.length = zc.size:=fun r hr' => by rw [List.eq_of_mem_replicate hr']; exact hl
    refine .agg _ _ (by rw [flatten_length _ hs]; simp) ?_ ?_
    · intro a ha
      rw [List.mem_flatten] at ha
      obtain ⟨r,h1,h2⟩:=ha
      rw [List.eq_of_mem_replicate h1] at h2
      exact hc a h2
    · intro k a b ha hb
      have e:k / zc.size * zc.size + k % zc.size = k:=Nat.div_add_mod' k zc.size
      have hm:=Nat.mod_lt k hz
      have:=flatten_get _ hs (k / zc.size) (k % zc.size) hm
      rw [e,ha,List.getElem?_replicate] at this
      split at this
      · simp only [Option.bind_some] at this
        refine hr _ a b this.symm ?_
        rw [Array.getElem?_map] at hb
        have hk : k < len * zc.size := by
          rcases Nat.lt_or_ge k (len * zc.size) with g | g
          · exact g
          · simp [Array.getElem?_eq_none (xs:=Array.range (len * zc.size)) (i:=k) (by simpa using g)] at hb
        simp [hk] at hb
        rw [← hb,getElem!_pos zc _ hm]
        simp [hm]
      · cases this
theorem fillRows_flat {sz : Nat} : ∀ (ps : List (Nat × V)) (rows rows' : List (List V)), (∀ r ∈ rows, r.length = sz) → fillRows sz rows ps = some rows' →
    fill rows.flatten (ps.map fun p => (p.1 * sz,sz,p.2)) = some rows'.flatten ∧ (∀ r ∈ rows',r.length = sz) ∧ rows'.length = rows.length
  | [],rows,rows',hs,h => by simp [fillRows] at h; subst h; exact ⟨rfl,hs,rfl⟩
  | (i, x) :: ps, rows, rows', hs, h => by
    simp only [fillRows] at h
    cases hc:x.cells? with
    | none => rw [hc] at h; simp at h
    | some vs =>
      rw [hc] at h
      simp only [Option.bind_some] at h
      split at h
      · rename_i hh
        obtain ⟨h1,h2⟩:=hh
        have hs' : ∀ r ∈ rows.set i vs, r.length = sz := fun r hr => by
          rcases List.mem_or_eq_of_mem_set hr with hr | hr
          · exact hs r hr
          · rw [hr]; exact h1
        obtain ⟨g1,g2,g3⟩:=fillRows_flat ps _ rows' hs' h
        refine ⟨?_,g2,by rw [g3]; simp⟩
        have hfl:=flatten_length rows hs
        have hmul : i * sz + sz ≤ rows.length * sz := by
          have:(i + 1) * sz ≤ rows.length * sz:=Nat.mul_le_mul_right _ h2
          rwa [Nat.succ_mul] at this
        simp only [List.map_cons,fill,hc,Option.bind_some,if_pos h1,putRow]
        rw [if_pos (by rw [h1,hfl]; exact hmul)]
        simp only [Option.bind_some]
        rw [h1,← flatten_set rows hs i vs h2]
        exact g1
      · cases h
theorem agg_cells {l : List V} {cs : Array Value} (h : Rel σ K w (.agg l) (.agg cs)) : CellsAt σ K w (fun k => cs.toList[k]?) 0 l := by
  cases h with
  | agg _ _ hl hc hr =>
    intro j c hj
    have hlt:j < cs.size:=by rw [← hl]; exact (List.getElem?_eq_some_iff.1 hj).1
    exact ⟨hc c (List.mem_of_getElem? hj),cs[j],by simp [hlt],hr j c _ hj (by simp [hlt])⟩
theorem agg_size {l:List V} {cs:Array Value} (h:Rel σ K w (.agg l) (.agg cs)):l.length = cs.size:=by
 cases h; assumption
theorem elem_under {t el:TypeId} (h:elemOf C.P t = some el):C.P.underlying t = some (.slice el):=by
 unfold elemOf at h
 split at h
 ·rename_i e hu; injection h with h; subst h; exact hu
 ·cases h
theorem ok_buildSlice (inv : Inv σ K H w) {t : TypeId} {len : Nat} {parts : Array (Nat × Operand)} {e : Operand → V} {ρ : Operand → Value} (E : ∀ x, Rel σ K w (e x) (ρ x)) (h : opV C e (.buildSlice t len parts) H = some (v, H')) :
    ∃ z w' K',(Instr.buildSlice t len (parts.map fun (i,x) => (i,ρ x))).run C.P w = .ok z w' ∧ Rel σ K' w' v z ∧ Inv σ K' H' w' ∧ Evo K H w K' H' w':=by
  cases he:elemOf C.P t with
  | none => simp [opV,he,M.fail] at h
  | some el =>
  have hu:=elem_under he
  cases hz:zeroC C.P el with
  | none => simp [opV,he,hz,M.fail] at h
  | some z =>
  obtain ⟨i,zv,hi,hzv,hrz⟩:=zeroC_rel (σ:=σ) (K:=K) (w:=w) hz
  simp only [opV,he,hz] at h
  split at h
  · rename_i hh
    obtain ⟨h0,h1,h2⟩:=hh
    have hp:(parts.map fun (x:Nat × Operand) => (x.1,ρ x.2)).toList = parts.toList.map fun p => (p.1,ρ p.2):=by simp
    have hzs:zv.cells.size = C.P.cellsOf el:=by rw [← agg_size hrz,h1]
    cases len with
    | zero =>
      cases hpl:parts.toList with
      | cons p l => rw [hpl] at h; simp [sliceV] at h
      | nil =>
        rw [hpl] at h
        simp only [sliceV,List.map_nil,Option.some.injEq,Prod.mk.injEq] at h
        obtain ⟨rfl,rfl⟩:=h
        obtain ⟨j1,j2⟩:=inv.junk (Obj.cells #[] el)
        refine ⟨.slice (some ⟨w.heap.size,0,none⟩) 0 0,_,K,?_,.emp _,j1,j2⟩
        rw [hpl] at hp
        simp only [Instr.buildSlice,Sem.run_bind,run_underlying hu,Result.andThen_ok,run_sizeOf hi,hp]
        simp [Instr.fill,newRow]
        congr 2
        simp [Array.range_zero']
    | succ len =>
      simp only [sliceV] at h
      cases hfr:fillRows (C.P.cellsOf el) (List.replicate (len + 1) z) (parts.toList.map fun p => (p.1,e p.2)) with
      | none => rw [hfr] at h; simp at h
      | some rows =>
        rw [hfr] at h
        simp only [Option.bind_some,newRows,Option.some.injEq,Prod.mk.injEq] at h
        obtain ⟨rfl,rfl⟩:=h
        have hs0:∀ r ∈ List.replicate (len + 1) z,r.length = C.P.cellsOf el:=fun r hr => by rw [List.eq_of_mem_replicate hr]; exact h1
        obtain ⟨g1,g2,g3⟩:=fillRows_flat _ _ _ hs0 hfr
        have hzr:=zeros_rel hrz (by rw [hzs]; exact h0) (len + 1)
        have hps:(parts.toList.mapM fun p => ((some (p.1 * C.P.cellsOf el,C.P.cellsOf el):Option (Nat × Nat))).map fun os => (os.1,os.2,e p.2)) = some (parts.toList.map fun p => (p.1 * C.P.cellsOf el,C.P.cellsOf el,e p.2)):=mapM_some _ _ (fun _ => rfl) _
        rw [List.map_map] at g1
        obtain ⟨cs',k1,k2,k3⟩:=fill_ok E (fun i => some (i * C.P.cellsOf el,C.P.cellsOf el)) parts.toList _ hps _ _ _ hzr g1
        have hlen:rows.length = len + 1:=by rw [g3]; simp
        have hsz:(len + 1) * C.P.cellsOf el ≤ cs'.size:=by rw [k3]; simp [hzs]
        obtain ⟨K',j1,j2,j3⟩:=newRows_ok inv el (C.P.cellsOf el) rows cs' rows.length true g2 (Nat.le_refl _) (by rw [hlen]; exact hsz) (fun _ => rfl) (agg_cells k2)
        refine ⟨_,_,K',?_,j3,j1,j2⟩
        have hne : ¬ ((len + 1) * C.P.cellsOf el = 0) := by
          intro e0
          rcases Nat.mul_eq_zero.1 e0 with e0 | e0 <;> omega
        simp only [Instr.buildSlice,Sem.run_bind,run_underlying hu,Result.andThen_ok,run_sizeOf hi]
        rw [if_neg (by omega)]
        simp only [Sem.run_bind,Sem.run_pure,Result.andThen_ok,if_neg hne,run_zeroValue hi hzv]
        rw [hp,← hzs]
        rw [← hzs] at k1
        simp only [k1,Sem.run_bind,newRow,run_newObj_alloc,Result.andThen_ok,Sem.run_pure,hlen]
  · cases h
theorem flatten_single {α:Type}:∀ l:List α,(l.map fun c => [c]).flatten = l
 | [] => rfl
 | a :: l => by simp [flatten_single l]
theorem items_ok (inv : Inv σ K H w) {sz : Nat} {y : V} {b : Value} (hy : Rel σ K w y b) {items : List (List V)} (h : itemsV sz y H = some items) :
    ∃ xs : List Value, (∀ w', (Builtin.lenOf b).run C.P w' = .ok items.length w') ∧ (∀ w' : World, w'.heap = w.heap → (Builtin.firstCells sz items.length b).run C.P w' = .ok xs.toArray w') ∧
      (∀ k,k ≤ items.length → ∀ w':World,w'.heap = w.heap → (Builtin.firstCells sz k b).run C.P w' = .ok (xs.take (k * sz)).toArray w') ∧
      (∀ r ∈ items,r.length = sz) ∧ xs.length = items.length * sz ∧ (∀ (j:Nat) c x,items.flatten[j]? = some c → xs[j]? = some x → Rel σ K w c x) ∧ (∀ c ∈ items.flatten,c.isCell = true) ∧ (∀ x ∈ xs,x.oneCell' = true):=by
  have fromCells : ∀ (blk base n cap : Nat) (rows : List (List V)), rows.length = n → (∀ r ∈ rows, r.length = sz) → CellsAt σ K w (fun k => w.cell? ⟨blk, k, none⟩) base rows.flatten →
      ∃ xs:List Value,(∀ w',(Builtin.lenOf (.slice (some ⟨blk,base,none⟩) n cap)).run C.P w' = .ok rows.length w') ∧ (∀ w':World,w'.heap = w.heap → (Builtin.firstCells sz rows.length (.slice (some ⟨blk,base,none⟩) n cap)).run C.P w' = .ok xs.toArray w') ∧
      (∀ k,k ≤ rows.length → ∀ w':World,w'.heap = w.heap → (Builtin.firstCells sz k (.slice (some ⟨blk,base,none⟩) n cap)).run C.P w' = .ok (xs.take (k * sz)).toArray w') ∧
      (∀ r ∈ rows,r.length = sz) ∧ xs.length = rows.length * sz ∧ (∀ (j:Nat) c x,rows.flatten[j]? = some c → xs[j]? = some x → Rel σ K w c x) ∧ (∀ c ∈ rows.flatten,c.isCell = true) ∧ (∀ x ∈ xs,x.oneCell' = true):=by
    intro blk base n cap rows hn hs hc
    obtain ⟨xs,e1,e2,e3,e4⟩:=hc.vals
    have hfl:=flatten_length rows hs
    have hx:xs.length = rows.length * sz:=by rw [e1,hfl]
    have hk : ∀ k, k ≤ rows.length → ∀ w' : World, w'.heap = w.heap → (Builtin.firstCells sz k (.slice (some ⟨blk, base, none⟩) n cap)).run C.P w' = .ok (xs.take (k * sz)).toArray w' := by
      intro k hk w' hw'
      have hkl : (xs.take (k * sz)).length = k * sz := by
        rw [List.length_take,hx]
        have:k * sz ≤ rows.length * sz:=Nat.mul_le_mul_right _ hk
        omega
      have := run_loadCells_list (P := C.P) w' ⟨blk, base, none⟩ (xs.take (k * sz)) (fun j x hj => by
        rw [List.getElem?_take] at hj
        split at hj
        · have hadd:(⟨blk,base,none⟩:Addr).add j = ⟨blk,base + j,none⟩:=by unfold Addr.add; split <;> simp_all
          rw [hadd]
          have:=e2 j x hj
          simpa [World.cell?,hw'] using this
        · cases hj)
      rw [hkl] at this
      simpa [Builtin.firstCells] using this
    refine ⟨xs,fun w' => by simp [Builtin.lenOf,hn],fun w' hw' => ?_,hk,hs,hx,e3,hc.cell,e4⟩
    have:=hk rows.length (Nat.le_refl _) w' hw'
    rwa [← hx,List.take_length] at this
  have none_ : ∀ b : Value, (∀ w', (Builtin.lenOf b).run C.P w' = .ok 0 w') → (∀ w' : World, (Builtin.firstCells sz 0 b).run C.P w' = .ok #[] w') → items = [] →
      ∃ xs:List Value,(∀ w',(Builtin.lenOf b).run C.P w' = .ok items.length w') ∧ (∀ w':World,w'.heap = w.heap → (Builtin.firstCells sz items.length b).run C.P w' = .ok xs.toArray w') ∧
      (∀ k,k ≤ items.length → ∀ w':World,w'.heap = w.heap → (Builtin.firstCells sz k b).run C.P w' = .ok (xs.take (k * sz)).toArray w') ∧
      (∀ r ∈ items,r.length = sz) ∧ xs.length = items.length * sz ∧ (∀ (j:Nat) c x,items.flatten[j]? = some c → xs[j]? = some x → Rel σ K w c x) ∧ (∀ c ∈ items.flatten,c.isCell = true) ∧ (∀ x ∈ xs,x.oneCell' = true):=by
    intro b h1 h2 h3
    subst h3
    exact ⟨[], h1, fun w' _ => h2 w', fun k hk w' _ => by
      have h0:k = 0:=by simpa using hk
      subst h0
      simpa using h2 w',by simp,by simp,by simp,by simp,by simp⟩
  cases hy with
  | nils => simp [itemsV] at h; exact none_ _ (fun _ => rfl) (fun _ => rfl) h
  | emp a => simp [itemsV] at h; exact none_ _ (fun _ => rfl) (fun _ => by simp [Builtin.firstCells,loadCells,loadCellsFrom]) h
  | imm0 z a cap =>
    simp only [itemsV] at h
    split at h
    · injection h with h
      exact none_ _ (fun _ => rfl) (fun _ => by simp [Builtin.firstCells,loadCells,loadCellsFrom]) h.symm
    · cases h
  | imm z rows blk off cap val hI hcap hs hc hw hr =>
    simp only [itemsV] at h
    split at h
    · rename_i e
      subst e
      injection h with h
      subst h
      refine fromCells blk off _ cap rows rfl hs ((rows_flat hs).1 fun i r j c hi hj => ⟨V.cell_of_closed (hc r (List.mem_of_getElem? hi) c (List.mem_of_getElem? hj)),val i j,hw i r j c hi hj,hr i r j c hi hj⟩)
    · cases h
  | ref l z s n c ex a cap blk off hl hρ hn hc hex ha hmt =>
    have hm':=tag_not hρ hmt
    simp only [itemsV] at h
    split at h
    · rename_i e
      subst e
      cases hb:H.blk l with
      | none => rw [hb] at h; simp at h
      | some B =>
        rw [hb] at h
        simp only [Option.bind_some] at h
        split at h
        · rename_i hle
          injection h with h
          have hB:=inv.blk l B hb
          obtain ⟨cs,e,g1,g2,g3⟩:=hB.flat hm'
          have hz:=hB.sz
          rw [hρ] at g1 g2 g3 hz
          simp only at g1 g2 g3 hz
          subst hz
          have hilen:items.length = n:=by rw [← h,List.length_take,List.length_drop]; omega
          by_cases hn0:n = 0
          · subst hn0
            have:items = []:=List.eq_nil_of_length_eq_zero hilen
            exact none_ _ (fun _ => rfl) (fun _ => by simp [Builtin.firstCells,loadCells,loadCellsFrom]) this
          · obtain ⟨rfl, _⟩ := ha (by omega)
            have hs : ∀ r ∈ items, r.length = B.sz := fun r hr => by
              rw [← h] at hr
              exact (hB.rows' hm') r (List.mem_of_mem_drop (List.mem_of_mem_take hr))
            refine fromCells blk (off + s * B.sz) n cap items hilen hs ?_
            have hsub : items.flatten = (B.rows.flatten.drop (s * B.sz)).take (n * B.sz) := by
              rw [← h,flatten_take _ (fun r hr => (hB.rows' hm') r (List.mem_of_mem_drop hr)),flatten_drop _ (hB.rows' hm')]
            rw [hsub]
            have:=(g3.drop (s * B.sz)).take (n * B.sz)
            refine this.congr (fun j _ => ?_)
            show w.cell? ⟨blk,_,none⟩ = _
            rw [g1.cell]
            simp
        · cases h
    · cases h
  | sub l i o n c blk off z hl hρ hmt =>
    have hm':=tag_not hρ hmt
    simp only [itemsV] at h
    split at h
    case isFalse => cases h
    rename_i e
    subst e
    cases hb:H.blk l with
    | none => rw [hb] at h; simp at h
    | some B =>
    cases hr:B.rows[i]? with
    | none => rw [hb] at h; simp [hr] at h
    | some r =>
    rw [hb] at h
    simp only [Option.bind_some,hr] at h
    split at h
    case isFalse => cases h
    rename_i hle
    injection h with h
    have hB:=inv.blk l B hb
    obtain ⟨cs,e,g1,g2,g3⟩:=hB.at' hm'
    have hz:=hB.sz
    rw [hρ] at g1 g3 hz
    simp only at g1 g3 hz
    have hrow : CellsAt σ K w (fun k => w.cell? ⟨blk, k, none⟩) (off + i * z) r := fun j c hj => by
      obtain ⟨h4,y,h5,h6⟩:=g3 i r j c hr hj
      rw [← hz] at h5
      exact ⟨h4,y,(g1.cell _).trans h5,h6⟩
    have hlen:((r.drop o).take n).length = n:=by rw [List.length_take,List.length_drop]; omega
    subst h
    refine fromCells blk (off + i * z + o) n c _ (by rw [List.length_map,hlen]) (fun rr hrr => by obtain ⟨c,_,rfl⟩:=List.mem_map.1 hrr; rfl) ?_
    rw [flatten_single]
    exact (hrow.drop o).take n
  | str u =>
    simp only [itemsV] at h
    split at h
    · rename_i e
      subst e
      injection h with h
      have hl:items.length = u.size:=by rw [← h]; simp
      have hfl : items.flatten = u.data.toList.map fun b => V.int .u8 b.toNat := by
        rw [← h]
        generalize u.data.toList = l
        induction l with
        | nil => rfl
        | cons b l ih => simp [ih]
      have hex : ∀ k, k ≤ items.length → ∀ w' : World, (Builtin.firstCells 1 k (.string u)).run C.P w' = .ok ((u.data.toList.map fun b => Value.int .u8 b.toNat).take (k * 1)).toArray w' := by
        intro k hk w'
        simp [Builtin.firstCells]
        apply Array.ext'
        rw [Array.toList_extract]
        show ((Array.map _ u.data).toList.drop 0).take (k - 0) = _
        simp
      refine ⟨u.data.toList.map fun b => Value.int .u8 b.toNat,fun w' => by simp [Builtin.lenOf,hl],fun w' _ => ?_,fun k hk w' _ => hex k hk w',?_,by rw [hl]; simp,?_,?_,?_⟩
      · have:=hex items.length (Nat.le_refl _) w'
        rw [this,hl]
        congr 2
        rw [List.take_of_length_le]
        simp
      · intro r hr
        rw [← h] at hr
        simp at hr
        obtain ⟨b,_,rfl⟩:=hr
        rfl
      · intro j c x hc hx
        rw [hfl,List.getElem?_map] at hc
        rw [List.getElem?_map] at hx
        cases hq:u.data.toList[j]? with
        | none => rw [hq] at hc; simp at hc
        | some b => rw [hq] at hc hx; simp at hc hx; subst hc; subst hx; exact .int _ _
      · intro c hc
        rw [hfl] at hc
        simp at hc
        obtain ⟨b,_,rfl⟩:=hc
        rfl
      · intro x hx
        simp at hx
        obtain ⟨b,_,rfl⟩:=hx
        rfl
    · cases h
  | _ => simp [itemsV] at h
end
end Go.Fv
