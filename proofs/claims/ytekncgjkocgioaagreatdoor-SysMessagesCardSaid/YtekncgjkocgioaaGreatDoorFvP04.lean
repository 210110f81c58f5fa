/-
  Operations, further: without memory. By an AI agent; no person has read it.
-/
import Derived.Test.YtekncgjkocgioaaGreatDoorFvP03
set_option linter.unusedVariables false
set_option linter.unusedSimpArgs false
set_option linter.unusedSectionVars false
/-! Operations, further: without memory. -/
namespace Go.Fv
open Go
section
variable {C:Cfg} {σ:Nat → Addr} {K:Ctx} {H H':Heap} {w:World} {v:V}
theorem rel_cst (x:Value):Rel σ K w (cst x) x:=by
 unfold cst
 split <;> first | exact .bool _ | exact .int _ _ | exact .str _ | exact .nilp | exact .nils | exact .nili | exact .nilf | exact .undef _
theorem rel_cstV (x:Value):Rel σ K w (cstV x) x:=by
 unfold cstV
 split
 ·rename_i cs
  split
  ·rename_i h
   refine .agg _ cs (by simp) (by simpa only [List.all_eq_true] using h) ?_
   intro i a b ha hb
   rw [List.getElem?_map] at ha
   rw [Array.getElem?_toList,hb] at ha
   simp at ha
   subst ha
   exact rel_cst b
  ·exact .undef _
 ·exact rel_cst x
theorem natOf_rel {v : V} {x : Value} {a : Nat} (h : Rel σ K w v x) (hn : natOf v = some a) : ∃ k, x = .int k (a : Int) := by
  cases h with
  | int k n =>
    simp only [natOf] at hn
    split at hn
    · rename_i h0
      injection hn with hn
      exact ⟨k,by rw [← hn,Int.toNat_of_nonneg h0]⟩
    · cases hn
  | _ => simp [natOf] at hn
theorem ok_idx {t el : TypeId} (ht : C.P.underlying t = some (.slice el)) {x i : V} {y j : Value} (hx : Rel σ K w x y) (hi : Rel σ K w i j) (h : idxV (C.P.cellsOf el) x i = some v)
    (hs:∃ i,C.P.info? el = some i):∃ z,(Instr.indexAt t y j).run C.P w = .ok z w ∧ Rel σ K w v z:=by
  obtain ⟨inf,hinf⟩:=hs
  cases hi with
  | int k n =>
    cases hx with
    | ref l sz s m c ex a cap b off hl hρ hn hc hex ha hmt =>
      simp only [idxV] at h
      split at h
      · rename_i hh
        obtain ⟨h0,h1,h2⟩:=hh
        injection h with h
        subst h; subst h2
        have hm:0 < cap:=by omega
        obtain ⟨rfl,hr⟩:=ha hm
        refine ⟨.pointer (some ⟨b,off + (s + n.toNat) * C.P.cellsOf el + 0,none⟩),?_,.ptr _ _ _ _ _ _ hl hρ hmt⟩
        have hadd : (⟨b, off + s * C.P.cellsOf el, none⟩ : Addr).add (n.toNat * C.P.cellsOf el) = ⟨b, off + (s + n.toNat) * C.P.cellsOf el + 0, none⟩ := by
          rw [Nat.add_mul,← Nat.add_assoc]; unfold Addr.add; split <;> simp_all
        simp [Instr.indexAt,asIntOf,run_underlying ht,h0,h1,run_sizeOf hinf,hadd]
      · cases h
    | sub l i o m c b off z hl hρ hmt =>
      simp only [idxV] at h
      split at h
      · rename_i hh
        obtain ⟨h0,h1,h2⟩:=hh
        injection h with h
        subst h
        refine ⟨.pointer (some ⟨b,off + i * z + (o + n.toNat),none⟩),?_,.ptr _ _ _ _ _ _ hl hρ hmt⟩
        have hadd : (⟨b, off + i * z + o, none⟩ : Addr).add (n.toNat * C.P.cellsOf el) = ⟨b, off + i * z + (o + n.toNat), none⟩ := by
          rw [h2]; unfold Addr.add; split <;> simp_all <;> omega
        simp [Instr.indexAt,asIntOf,run_underlying ht,h0,h1,run_sizeOf hinf,hadd]
      · cases h
    | imm0 sz a cap => simp [idxV] at h
    | imm sz rows b off cap val hI hcap hs hc hw hr =>
      simp only [idxV] at h
      split at h
      · rename_i hh
        obtain ⟨h0,h2⟩:=hh
        subst h2
        cases hrow:rows[n.toNat]? with
        | none => rw [hrow] at h; simp at h
        | some r =>
          rw [hrow] at h
          simp only [Option.bind_some,Option.some.injEq] at h
          subst h
          have hlt:n.toNat < rows.length:=(List.getElem?_eq_some_iff.1 hrow).1
          have h1:n < (rows.length:Int):=by omega
          refine ⟨.pointer (some ⟨b,off + n.toNat * C.P.cellsOf el + 0,none⟩),?_,.iptr r 0 b (off + n.toNat * C.P.cellsOf el) (val n.toNat) hI (hc r (List.mem_of_getElem? hrow)) (fun j c hj => hw _ r j c hrow hj) (fun j c hj => hr _ r j c hrow hj)⟩
          have hadd : (⟨b, off, none⟩ : Addr).add (n.toNat * C.P.cellsOf el) = ⟨b, off + n.toNat * C.P.cellsOf el + 0, none⟩ := by
            unfold Addr.add; split <;> simp_all
          simp [Instr.indexAt,asIntOf,run_underlying ht,h0,h1,run_sizeOf hinf,hadd]
      · cases h
    | _ => simp [idxV] at h
  | _ => cases hx <;> simp [idxV] at h
theorem ok_padd {n : Nat} {x : V} {y : Value} (hx : Rel σ K w x y) (h : padd n x = some v) : ∃ a : Addr, y = .pointer (some a) ∧ Rel σ K w v (.pointer (some (a.add n))) := by
  have hadd:∀ (b o:Nat),(⟨b,o,none⟩:Addr).add n = ⟨b,o + n,none⟩:=fun b o => by unfold Addr.add; split <;> simp_all
  cases hx with
  | ptr l i o b off sz hl hρ hmt =>
    simp only [padd,Option.some.injEq] at h
    subst h
    refine ⟨_,rfl,?_⟩
    rw [hadd,Nat.add_assoc]
    exact .ptr l i (o + n) b off sz hl hρ hmt
  | iptr row o b off val hI hc hw hr =>
    simp only [padd,Option.some.injEq] at h
    subst h
    refine ⟨_,rfl,?_⟩
    rw [hadd,Nat.add_assoc]
    exact .iptr row (o + n) b off val hI hc hw hr
  | _ => simp [padd] at h
theorem ok_aidx {t el : TypeId} {len : Nat} (ht : C.P.underlying t = some (.array len el)) {x i : V} {y j : Value} (hx : Rel σ K w x y) (hi : Rel σ K w i j) (h : aidxV len (C.P.cellsOf el) x i = some v)
    (hs:∃ i,C.P.info? el = some i):∃ z,(Instr.indexAt t y j).run C.P w = .ok z w ∧ Rel σ K w v z:=by
  obtain ⟨inf,hinf⟩:=hs
  cases hi with
  | int k n =>
    simp only [aidxV] at h
    split at h
    · rename_i hh
      obtain ⟨a,rfl,hr⟩:=ok_padd hx h
      exact ⟨_,by simp [Instr.indexAt,Instr.sureAddr,asIntOf,run_underlying ht,hh.1,hh.2,run_sizeOf hinf],hr⟩
    · cases h
  | _ => simp [aidxV] at h
theorem ok_lenS {t ty:TypeId} (ht:C.P.underlying t = some .string) {x:V} {y:Value} (hx:Rel σ K w x y) (h:lenS x = some v):∃ z,(Builtin.len_ #[t] ty #[y]).run C.P w = .ok z w ∧ Rel σ K w v z:=by
 cases hx <;> simp [lenS] at h
 subst h
 exact ⟨_,by simp [Builtin.len_,run_underlying ht]; rfl,.int _ _⟩
theorem ok_len {t ty e:TypeId} (ht:C.P.underlying t = some (.slice e)) {x:V} {y:Value} (hx:Rel σ K w x y) (h:lenV x = some v):∃ z,(Builtin.len_ #[t] ty #[y]).run C.P w = .ok z w ∧ Rel σ K w v z:=by
 cases hx <;> simp [lenV] at h <;> (subst h; exact ⟨_,by simp [Builtin.len_,run_underlying ht]; rfl,.int _ _⟩)
theorem ok_slS {t : TypeId} (ht : C.P.underlying t = some .string) {x : V} {y : Value} {lo hi : Option V} {lo' hi' : Option Value} (hx : Rel σ K w x y)
    (hlo:(lo = none ∧ lo' = none) ∨ ∃ a b,lo = some a ∧ lo' = some b ∧ Rel σ K w a b) (hhi:(hi = none ∧ hi' = none) ∨ ∃ a b,hi = some a ∧ hi' = some b ∧ Rel σ K w a b)
    (h:slS x lo hi = some v):∃ z,(Instr.slice t y lo' hi' none).run C.P w = .ok z w ∧ Rel σ K w v z:=by
  cases hx with
  | str s =>
    simp only [slS] at h
    cases ea:optNat lo 0 with
    | none => rw [ea] at h; simp at h
    | some p =>
      rw [ea] at h
      simp only [Option.bind_some] at h
      cases eb:optNat hi s.size with
      | none => rw [eb] at h; simp at h
      | some q =>
        rw [eb] at h
        simp only [Option.bind_some] at h
        split at h
        · rename_i hh
          obtain ⟨h1,h2⟩:=hh
          injection h with h
          subst h
          refine ⟨.string (s.extract p q),?_,.str _⟩
          rcases hlo with ⟨rfl,rfl⟩ | ⟨u,u',rfl,rfl,hu⟩ <;> rcases hhi with ⟨rfl,rfl⟩ | ⟨z,z',rfl,rfl,hz⟩
          · simp [optNat] at ea eb; subst ea; subst eb; simp [Instr.slice,run_underlying ht,Instr.sliceBounds]
          · simp [optNat] at ea; subst ea; obtain ⟨k,rfl⟩:=natOf_rel hz eb
            simp [Instr.slice,run_underlying ht,Instr.sliceBounds,Instr.sliceBound,asIntOf,h2]
          · simp [optNat] at eb; subst eb; obtain ⟨k,rfl⟩:=natOf_rel hu ea
            simp [Instr.slice,run_underlying ht,Instr.sliceBounds,Instr.sliceBound,asIntOf,h1]
          · obtain ⟨k,rfl⟩:=natOf_rel hu ea; obtain ⟨k',rfl⟩:=natOf_rel hz eb
            simp [Instr.slice,run_underlying ht,Instr.sliceBounds,Instr.sliceBound,asIntOf,h1,h2]
        · cases h
  | _ => simp [slS] at h
theorem ok_slice {t el : TypeId} (ht : C.P.underlying t = some (.slice el)) {x : V} {y : Value} {lo hi mx : Option V} {lo' hi' mx' : Option Value} (hx : Rel σ K w x y)
    (hlo:(lo = none ∧ lo' = none) ∨ ∃ a b,lo = some a ∧ lo' = some b ∧ Rel σ K w a b) (hhi:(hi = none ∧ hi' = none) ∨ ∃ a b,hi = some a ∧ hi' = some b ∧ Rel σ K w a b)
    (hmx:(mx = none ∧ mx' = none) ∨ ∃ a b,mx = some a ∧ mx' = some b ∧ Rel σ K w a b) (hgo:mx = none ∨ hi.isSome = true)
    (h:slV (C.P.cellsOf el) x lo hi mx = some v) (hs:∃ i,C.P.info? el = some i):∃ z,(Instr.slice t y lo' hi' mx').run C.P w = .ok z w ∧ Rel σ K w v z:=by
  obtain ⟨inf,hinf⟩:=hs
  have bounds : ∀ (len cap a b : Nat), optNat lo 0 = some a → optNat hi len = some b → a ≤ b → b ≤ len → len ≤ cap →
      (mx = none → (Instr.sliceBounds true len cap lo' hi' mx').run C.P w = .ok (a,b,cap) w) ∧
      (∀ m0 m,mx = some m0 → natOf m0 = some m → b ≤ m → m ≤ cap → (Instr.sliceBounds true len cap lo' hi' mx').run C.P w = .ok (a,b,m) w):=by
    intro len cap a b ha hb hab hbl hlc
    have hbc:b ≤ cap:=by omega
    constructor
    · intro hm
      rcases hmx with ⟨rfl,rfl⟩ | ⟨p,q,rfl,rfl,hpq⟩
      · rcases hlo with ⟨rfl, rfl⟩ | ⟨p, q, rfl, rfl, hpq⟩ <;> rcases hhi with ⟨rfl, rfl⟩ | ⟨p', q', rfl, rfl, hpq'⟩
        · simp [optNat] at ha hb; subst ha; subst hb; simp [Instr.sliceBounds]
        · simp [optNat] at ha; subst ha; obtain ⟨k,rfl⟩:=natOf_rel hpq' hb
          simp [Instr.sliceBounds,Instr.sliceBound,asIntOf,hbc]
        · simp [optNat] at hb; subst hb; obtain ⟨k,rfl⟩:=natOf_rel hpq ha
          simp [Instr.sliceBounds,Instr.sliceBound,asIntOf,hab]
        · obtain ⟨k,rfl⟩:=natOf_rel hpq ha; obtain ⟨k',rfl⟩:=natOf_rel hpq' hb
          simp [Instr.sliceBounds,Instr.sliceBound,asIntOf,hab,hbc]
      · cases hm
    · intro m0 m hm hm0 hbm hmc
      rcases hmx with ⟨rfl,rfl⟩ | ⟨p,q,rfl,rfl,hpq⟩
      · cases hm
      · injection hm with hm
        subst hm
        obtain ⟨km,rfl⟩:=natOf_rel hpq hm0
        rcases hlo with ⟨rfl,rfl⟩ | ⟨p,q,rfl,rfl,hpq⟩ <;> rcases hhi with ⟨rfl,rfl⟩ | ⟨p',q',rfl,rfl,hpq'⟩
        · simp at hgo
        · simp [optNat] at ha; subst ha; obtain ⟨k,rfl⟩:=natOf_rel hpq' hb
          simp [Instr.sliceBounds,Instr.sliceBound,asIntOf,hbm,hmc]
        · simp at hgo
        · obtain ⟨k,rfl⟩:=natOf_rel hpq ha; obtain ⟨k',rfl⟩:=natOf_rel hpq' hb
          simp [Instr.sliceBounds,Instr.sliceBound,asIntOf,hab,hbm,hmc]
  cases hx with
  | ref l sz s n c ex a cap b off hl hρ hn hc hex ha hmt =>
    simp only [slV] at h
    cases ea:optNat lo 0 with
    | none => rw [ea] at h; simp at h
    | some p =>
      rw [ea] at h
      simp only [Option.bind_some] at h
      cases eb:optNat hi n with
      | none => rw [eb] at h; simp at h
      | some q =>
        rw [eb] at h
        simp only [Option.bind_some] at h
        split at h
        · rename_i hh
          obtain ⟨h1,h2,h3⟩:=hh
          subst h1
          obtain ⟨b1,b2⟩:=bounds n cap p q ea eb h2 h3 (by omega)
          have hadd : ∀ k, 0 < cap → a.add (k * C.P.cellsOf el) = ⟨b, off + (s + k) * C.P.cellsOf el, none⟩ := fun k h0 => by
            obtain ⟨rfl,_⟩:=ha h0
            rw [Nat.add_mul,← Nat.add_assoc]; unfold Addr.add; split <;> simp_all
          cases mx with
          | none =>
            simp only [Option.some.injEq] at h
            subst h
            have hb:=b1 rfl
            refine ⟨_,by simp only [Instr.slice,Sem.run_bind,run_underlying ht,Result.andThen_ok,hb,run_sizeOf hinf,Sem.run_pure]; rfl,?_⟩
            have : ∃ a', (if cap = p then (some a) else (some a).map (·.add (p * C.P.cellsOf el))) = some a' ∧ (0 < cap - p → a' = ⟨b, off + (s + p) * C.P.cellsOf el, none⟩) := by
              by_cases e:cap = p
              · exact ⟨a,by rw [if_pos e],fun h0 => by omega⟩
              · exact ⟨a.add (p * C.P.cellsOf el),by rw [if_neg e]; rfl,fun h0 => hadd p (by omega)⟩
            obtain ⟨a',e1,e2⟩:=this
            rw [e1]
            exact .ref l _ (s + p) (q - p) (c - p) ex a' (cap - p) b off hl hρ (by omega) (by omega) (fun he => by rw [hex he]) (fun h0 => ⟨e2 h0, by
              have:=(ha (by omega)).2
              rwa [show s + p + (cap - p) = s + cap by omega]⟩) hmt
          | some m0 =>
            simp only at h
            cases em:natOf m0 with
            | none => rw [em] at h; simp at h
            | some m =>
              rw [em] at h
              simp only [Option.bind_some] at h
              split at h
              · rename_i hh
                obtain ⟨g1,g2⟩:=hh
                injection h with h
                have hb:=b2 m0 m rfl em g1 (by omega)
                refine ⟨_,by simp only [Instr.slice,Sem.run_bind,run_underlying ht,Result.andThen_ok,hb,run_sizeOf hinf,Sem.run_pure]; rfl,?_⟩
                by_cases e:m = p
                · rw [if_pos e] at h
                  subst h
                  rw [if_pos e,show q - p = 0 by omega,show m - p = 0 by omega]
                  exact .emp a
                · rw [if_neg e] at h
                  subst h
                  rw [if_neg e]
                  simp only [Option.map_some]
                  rw [hadd p (by omega)]
                  refine .ref l _ (s + p) (q - p) (m - p) true _ (m - p) b off hl hρ (by omega) (Nat.le_refl _) (fun _ => rfl) (fun h0 => ⟨rfl,?_⟩) hmt
                  obtain ⟨cs,e',f,r1,r2⟩:=(ha (by omega)).2
                  refine ⟨cs,e',f,r1,Nat.le_trans (Nat.add_le_add_left (Nat.mul_le_mul_right _ ?_) _) r2⟩
                  omega
              · cases h
        · cases h
  | sub l i o n c b off z hl hρ hmt =>
    simp only [slV] at h
    cases ea:optNat lo 0 with
    | none => rw [ea] at h; simp at h
    | some p =>
      rw [ea] at h
      simp only [Option.bind_some] at h
      cases eb:optNat hi n with
      | none => rw [eb] at h; simp at h
      | some q =>
        rw [eb] at h
        simp only [Option.bind_some] at h
        split at h
        · rename_i hh
          obtain ⟨h1,h2,h3,h4,h5⟩:=hh
          obtain ⟨b1,b2⟩:=bounds n c p q ea eb h2 h3 h4
          injection h with h
          have hb:=b1 h5
          have hadd : (⟨b, off + i * z + o, none⟩ : Addr).add (p * C.P.cellsOf el) = ⟨b, off + i * z + (o + p), none⟩ := by
            rw [h1]; unfold Addr.add; split <;> simp_all <;> omega
          refine ⟨_,by simp only [Instr.slice,Sem.run_bind,run_underlying ht,Result.andThen_ok,hb,run_sizeOf hinf,Sem.run_pure]; rfl,?_⟩
          by_cases e:c = p
          · rw [if_pos e] at h
            subst h
            rw [if_pos e,show q - p = 0 by omega,show c - p = 0 by omega]
            exact .emp _
          · rw [if_neg e] at h
            subst h
            rw [if_neg e]
            simp only [Option.map_some]
            rw [hadd]
            exact .sub _ _ _ _ _ _ _ _ hl hρ hmt
        · cases h
  | imm0 sz a cap =>
    simp only [slV,List.length_nil] at h
    cases ea:optNat lo 0 with
    | none => rw [ea] at h; simp at h
    | some p =>
      rw [ea] at h
      simp only [Option.bind_some] at h
      cases eb:optNat hi 0 with
      | none => rw [eb] at h; simp at h
      | some q =>
        rw [eb] at h
        simp only [Option.bind_some] at h
        split at h
        · rename_i hh
          obtain ⟨h1,h2,h3⟩:=hh
          subst h1
          obtain ⟨b1,b2⟩:=bounds 0 cap p q ea eb h2 h3 (by omega)
          have hp:p = 0:=by omega
          have hq:q = 0:=by omega
          subst hp; subst hq
          cases mx with
          | none =>
            simp only [Option.some.injEq] at h
            subst h
            have hb:=b1 rfl
            refine ⟨_,by simp only [Instr.slice,Sem.run_bind,run_underlying ht,Result.andThen_ok,hb,run_sizeOf hinf,Sem.run_pure]; rfl,?_⟩
            split <;> simp <;> exact .imm0 _ _ _
          | some m0 =>
            simp only at h
            cases em:natOf m0 with
            | none => rw [em] at h; simp at h
            | some m =>
              rw [em] at h
              simp only [Option.bind_some] at h
              split at h
              · rename_i hh
                have hm:m = 0:=by omega
                subst hm
                injection h with h
                rw [if_pos rfl] at h
                subst h
                have hb:=b2 m0 0 rfl em (by omega) (by omega)
                refine ⟨_,by simp only [Instr.slice,Sem.run_bind,run_underlying ht,Result.andThen_ok,hb,run_sizeOf hinf,Sem.run_pure]; rfl,?_⟩
                exact .emp a
              · cases h
        · cases h
  | imm sz rows b off cap val hI hcap hs hc hw hr =>
    simp only [slV] at h
    cases ea:optNat lo 0 with
    | none => rw [ea] at h; simp at h
    | some p =>
      rw [ea] at h
      simp only [Option.bind_some] at h
      cases eb:optNat hi rows.length with
      | none => rw [eb] at h; simp at h
      | some q =>
        rw [eb] at h
        simp only [Option.bind_some] at h
        split at h
        · rename_i hh
          obtain ⟨h1,h2,h3⟩:=hh
          subst h1
          obtain ⟨b1,b2⟩:=bounds rows.length cap p q ea eb h2 h3 hcap
          have hadd:(⟨b,off,none⟩:Addr).add (p * C.P.cellsOf el) = ⟨b,off + p * C.P.cellsOf el,none⟩:=by unfold Addr.add; split <;> simp_all
          have hlen:((rows.drop p).take (q - p)).length = q - p:=by rw [List.length_take,List.length_drop]; omega
          have sub : ∀ (a' : Addr) (cap' : Nat), (q - p ≤ cap') → (0 < q - p → a' = ⟨b, off + p * C.P.cellsOf el, none⟩) → Rel σ K w (.imm (C.P.cellsOf el) ((rows.drop p).take (q - p))) (.slice (some a') (q - p) cap') := by
            intro a' cap' hc' he
            by_cases e0:q - p = 0
            · rw [e0,List.take_zero]; exact .imm0 _ _ _
            · rw [he (by omega)]
              have get : ∀ (i : Nat) r, ((rows.drop p).take (q - p))[i]? = some r → rows[p + i]? = some r := fun i r hi => by
                rw [List.getElem?_take] at hi
                split at hi
                · rwa [List.getElem?_drop] at hi
                · cases hi
              have hk := Rel.imm (σ := σ) (K := K) (w := w) (C.P.cellsOf el) ((rows.drop p).take (q - p)) b (off + p * C.P.cellsOf el) cap' (fun i j => val (p + i) j) hI (by rw [hlen]; exact hc')
                (fun r hr' => by obtain ⟨i,hi⟩:=List.getElem?_of_mem hr'; exact hs r (List.mem_of_getElem? (get i r hi)))
                (fun r hr' => by obtain ⟨i,hi⟩:=List.getElem?_of_mem hr'; exact hc r (List.mem_of_getElem? (get i r hi)))
                (fun i r j c hi hj => by have:=hw (p + i) r j c (get i r hi) hj; rwa [show off + (p + i) * C.P.cellsOf el + j = off + p * C.P.cellsOf el + i * C.P.cellsOf el + j by rw [Nat.add_mul]; omega] at this)
                (fun i r j c hi hj => hr (p + i) r j c (get i r hi) hj)
              rwa [hlen] at hk
          cases mx with
          | none =>
            simp only [Option.some.injEq] at h
            subst h
            have hb:=b1 rfl
            refine ⟨_,by simp only [Instr.slice,Sem.run_bind,run_underlying ht,Result.andThen_ok,hb,run_sizeOf hinf,Sem.run_pure]; rfl,?_⟩
            by_cases e:cap = p
            · rw [if_pos e]; exact sub _ _ (by omega) (fun h0 => by omega)
            · rw [if_neg e]; simp only [Option.map_some]; exact sub _ _ (by omega) (fun _ => hadd)
          | some m0 =>
            simp only at h
            cases em:natOf m0 with
            | none => rw [em] at h; simp at h
            | some m =>
              rw [em] at h
              simp only [Option.bind_some] at h
              split at h
              · rename_i hh
                obtain ⟨g1,g2⟩:=hh
                injection h with h
                have hb:=b2 m0 m rfl em g1 (by omega)
                refine ⟨_,by simp only [Instr.slice,Sem.run_bind,run_underlying ht,Result.andThen_ok,hb,run_sizeOf hinf,Sem.run_pure]; rfl,?_⟩
                by_cases e:m = p
                · rw [if_pos e] at h
                  subst h
                  rw [if_pos e,show q - p = 0 by omega,show m - p = 0 by omega]
                  exact .emp _
                · rw [if_neg e] at h
                  subst h
                  rw [if_neg e]; simp only [Option.map_some]; exact sub _ _ (by omega) (fun _ => hadd)
              · cases h
        · cases h
  | nils =>
    simp only [slV] at h
    cases ea:optNat lo 0 with
    | none => rw [ea] at h; simp at h
    | some p =>
      rw [ea] at h
      simp only [Option.bind_some] at h
      cases eb:optNat hi 0 with
      | none => rw [eb] at h; simp at h
      | some q =>
        rw [eb] at h
        simp only [Option.bind_some] at h
        cases em:optNat mx 0 with
        | none => rw [em] at h; simp at h
        | some m =>
          rw [em] at h
          simp only [Option.bind_some] at h
          split at h
          · rename_i hh
            obtain ⟨rfl,rfl,rfl⟩:=hh
            injection h with h
            subst h
            obtain ⟨b1,b2⟩:=bounds 0 0 0 0 ea eb (Nat.le_refl _) (Nat.le_refl _) (Nat.le_refl _)
            have hb : (Instr.sliceBounds true 0 0 lo' hi' mx').run C.P w = .ok (0, 0, 0) w := by
              cases mx with
              | none => exact b1 rfl
              | some m0 => exact b2 m0 0 rfl em (Nat.le_refl _) (Nat.le_refl _)
            exact ⟨_,by simp only [Instr.slice,Sem.run_bind,run_underlying ht,Result.andThen_ok,hb,run_sizeOf hinf,Sem.run_pure]; rfl,.nils⟩
          · cases h
  | emp a =>
    simp only [slV] at h
    cases ea:optNat lo 0 with
    | none => rw [ea] at h; simp at h
    | some p =>
      rw [ea] at h
      simp only [Option.bind_some] at h
      cases eb:optNat hi 0 with
      | none => rw [eb] at h; simp at h
      | some q =>
        rw [eb] at h
        simp only [Option.bind_some] at h
        cases em:optNat mx 0 with
        | none => rw [em] at h; simp at h
        | some m =>
          rw [em] at h
          simp only [Option.bind_some] at h
          split at h
          · rename_i hh
            obtain ⟨rfl,rfl,rfl⟩:=hh
            injection h with h
            subst h
            obtain ⟨b1,b2⟩:=bounds 0 0 0 0 ea eb (Nat.le_refl _) (Nat.le_refl _) (Nat.le_refl _)
            have hb : (Instr.sliceBounds true 0 0 lo' hi' mx').run C.P w = .ok (0, 0, 0) w := by
              cases mx with
              | none => exact b1 rfl
              | some m0 => exact b2 m0 0 rfl em (Nat.le_refl _) (Nat.le_refl _)
            exact ⟨_,by simp only [Instr.slice,Sem.run_bind,run_underlying ht,Result.andThen_ok,hb,run_sizeOf hinf,Sem.run_pure]; rfl,.emp a⟩
          · cases h
  | _ => simp [slV] at h
theorem ok_aslice {t el : TypeId} {len : Nat} (ht : C.P.underlying t = some (.array len el)) (hsz : C.P.cellsOf el = 1) {x : V} {y : Value} {lo hi : Option V} {lo' hi' : Option Value} (hx : Rel σ K w x y)
    (hlo:(lo = none ∧ lo' = none) ∨ ∃ a b,lo = some a ∧ lo' = some b ∧ Rel σ K w a b) (hhi:(hi = none ∧ hi' = none) ∨ ∃ a b,hi = some a ∧ hi' = some b ∧ Rel σ K w a b)
    (h:aslV len x lo hi = some v) (hinf:∃ i,C.P.info? el = some i):∃ z,(Instr.sliceAt t y lo' hi' none).run C.P w = .ok z w ∧ Rel σ K w v z:=by
  obtain ⟨inf,hinf⟩:=hinf
  unfold aslV at h
  cases ea:optNat lo 0 with
  | none => rw [ea] at h; simp at h
  | some p =>
  rw [ea] at h
  simp only [Option.bind_some] at h
  cases eb:optNat hi len with
  | none => rw [eb] at h; simp at h
  | some q =>
  rw [eb] at h
  simp only [Option.bind_some] at h
  split at h
  case isFalse => cases h
  rename_i hh
  obtain ⟨h2,h3⟩:=hh
  have hb : (Instr.sliceBounds false len len lo' hi' none).run C.P w = .ok (p, q, len) w := by
    rcases hlo with ⟨rfl,rfl⟩ | ⟨p0,q0,rfl,rfl,hpq⟩ <;> rcases hhi with ⟨rfl,rfl⟩ | ⟨p',q',rfl,rfl,hpq'⟩
    · simp [optNat] at ea eb; subst ea; subst eb; simp [Instr.sliceBounds]
    · simp [optNat] at ea; subst ea; obtain ⟨k,rfl⟩:=natOf_rel hpq' eb
      simp [Instr.sliceBounds,Instr.sliceBound,asIntOf,h3]
    · simp [optNat] at eb; subst eb; obtain ⟨k,rfl⟩:=natOf_rel hpq ea
      simp [Instr.sliceBounds,Instr.sliceBound,asIntOf,h2]
    · obtain ⟨k,rfl⟩:=natOf_rel hpq ea; obtain ⟨k',rfl⟩:=natOf_rel hpq' eb
      simp [Instr.sliceBounds,Instr.sliceBound,asIntOf,h2,h3]
  cases hx with
  | ptr l i o b off z hl hρ hmt =>
    simp only [Option.some.injEq] at h
    have hadd : (⟨b, off + i * z + o, none⟩ : Addr).add (p * C.P.cellsOf el) = ⟨b, off + i * z + (o + p), none⟩ := by
      rw [hsz]; unfold Addr.add; split <;> simp_all <;> omega
    refine ⟨.slice (some (if len = p then ⟨b,off + i * z + o,none⟩ else (⟨b,off + i * z + o,none⟩:Addr).add (p * C.P.cellsOf el))) (q - p) (len - p),?_,?_⟩
    · simp [Instr.sliceAt,run_underlying ht,Instr.sureAddr,hb,run_sizeOf hinf]
    · by_cases e : len = p
      · rw [if_pos e] at h
        subst h
        rw [if_pos e,show q - p = 0 by omega,show len - p = 0 by omega]
        exact .emp _
      · rw [if_neg e] at h
        subst h
        rw [if_neg e,hadd]
        exact .sub _ _ _ _ _ _ _ _ hl hρ hmt
  | iptr r o b off val hI hc hw hr =>
    simp only at h
    split at h
    case isFalse => cases h
    rename_i hle
    injection h with h
    have hadd : (⟨b, off + o, none⟩ : Addr).add (p * C.P.cellsOf el) = ⟨b, off + o + p, none⟩ := by
      rw [hsz]; unfold Addr.add; split <;> simp_all
    refine ⟨.slice (some (if len = p then ⟨b,off + o,none⟩ else (⟨b,off + o,none⟩:Addr).add (p * C.P.cellsOf el))) (q - p) (len - p),?_,?_⟩
    · simp [Instr.sliceAt,run_underlying ht,Instr.sureAddr,hb,run_sizeOf hinf]
    · by_cases e : len = p
      · rw [if_pos e] at h
        subst h
        rw [if_pos e,show q - p = 0 by omega,show len - p = 0 by omega]
        exact .emp _
      · rw [if_neg e] at h
        subst h
        rw [if_neg e,hadd]
        have hlen:(((r.drop (o + p)).take (q - p)).map fun c => [c]).length = q - p:=by rw [List.length_map,List.length_take,List.length_drop]; omega
        have get : ∀ (i : Nat) (rr : List V) (j : Nat) (c : V), (((r.drop (o + p)).take (q - p)).map fun c => [c])[i]? = some rr → rr[j]? = some c → j = 0 ∧ r[o + p + i]? = some c := fun i rr j c hi hj => by
          rw [List.getElem?_map,List.getElem?_take] at hi
          split at hi
          · rw [List.getElem?_drop] at hi
            cases hq:r[o + p + i]? with
            | none => rw [hq] at hi; cases hi
            | some c0 =>
              rw [hq] at hi
              simp only [Option.map_some,Option.some.injEq] at hi
              subst hi
              cases j with
              | zero => simp at hj; exact ⟨rfl,by rw [hj]⟩
              | succ j => simp at hj
          · simp at hi
        have hk := Rel.imm (σ := σ) (K := K) (w := w) 1 (((r.drop (o + p)).take (q - p)).map fun c => [c]) b (off + o + p) (len - p) (fun i j => val (o + p + i)) hI (by rw [hlen]; omega)
          (fun rr hrr => by obtain ⟨c,_,rfl⟩:=List.mem_map.1 hrr; rfl)
          (fun rr hrr c hcc => by
            obtain ⟨c0,h0,rfl⟩:=List.mem_map.1 hrr
            have:c = c0:=by simpa using hcc
            subst this
            exact hc c (List.mem_of_mem_drop (List.mem_of_mem_take h0)))
          (fun i rr j c hi hj => by
            obtain ⟨rfl,g⟩:=get i rr j c hi hj
            have:=hw _ c g
            rwa [show off + (o + p + i) = off + o + p + i * 1 + 0 by omega] at this)
          (fun i rr j c hi hj => by
            obtain ⟨rfl,g⟩:=get i rr j c hi hj
            exact hr _ c g)
        rwa [hlen] at hk
  | _ => cases h
end
end Go.Fv
