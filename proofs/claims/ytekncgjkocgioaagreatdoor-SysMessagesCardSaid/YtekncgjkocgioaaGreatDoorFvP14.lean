/-
  Calls that hand back memory of their own. By an AI agent; no person has read it.
-/
import Derived.Test.YtekncgjkocgioaaGreatDoorFvP10
set_option linter.unusedVariables false
set_option linter.unusedSimpArgs false
set_option linter.unusedSectionVars false
/-! Calls that hand back memory of their own. -/
namespace Go.Fv
open Go
section
variable {C:Cfg} {σ:Nat → Addr} {Kc:Ctx} {Hc:Heap} {w0 w':World} {K0:Ctx} {H0:Heap}
structure Mid (σ:Nat → Addr) (Kc:Ctx) (Hc:Heap) (w0 w':World) (K0:Ctx) (H0:Heap) (ls:List Nat) (K:Ctx) (H:Heap):Prop where
 inv:Inv σ K H w'
 evo:Evo K0 H0 w0 K H w'
 seen:∀ l B,H.blk l = some B → (K.ρ l).1 < w0.heap.size ∨ ∃ lc ∈ ls,(∃ B',Hc.blk lc = some B') ∧ (Kc.ρ lc).1 = (K.ρ l).1
 I:K.I = K0.I
def Hands (σ:Nat → Addr) (Kc:Ctx) (Hc:Heap) (w0 w':World) (K0:Ctx) (H0:Heap) (g:V → List Nat → Option (V × List Nat)) (t:V → M V):Prop :=
 ∀ r ls r' ls' x K H u H',Rel σ Kc w' r x → g r ls = some (r',ls') → t r' H = some (u,H') → Mid σ Kc Hc w0 w' K0 H0 ls K H →
  ∃ K',Rel σ K' w' u x ∧ Mid σ Kc Hc w0 w' K0 H0 ls' K' H' ∧ Moves K K' w' w' ∧ (r.isCell = true → u.isCell = true)
theorem bind_eq {α β:Type} {m:M α} {f:α → M β} {H H':Heap} {b:β} (h:M.bind m f H = some (b,H')):∃ a H1,m H = some (a,H1) ∧ f a H1 = some (b,H'):=by
 unfold M.bind at h
 cases hm:m H with
 | none => rw [hm] at h; cases h
 | some x => rw [hm] at h; exact ⟨x.1,x.2,rfl,h⟩
theorem moves_trans {K K1 K2:Ctx} {w:World} (a:Moves K K1 w w) (b:Moves K1 K2 w w):Moves K K2 w w :=
 ⟨fun x h => b.I x (a.I x h),fun l h => (b.ρ l (a.D l h)).trans (a.ρ l h),fun l h => b.D l (a.D l h),fun _ _ => rfl,fun b cs e f h => ⟨cs,f,h,rfl⟩⟩
theorem moves_refl (K:Ctx) (w:World):Moves K K w w:=⟨fun _ h => h,fun _ _ => rfl,fun _ h => h,fun _ _ => rfl,fun b cs e f h => ⟨cs,f,h,rfl⟩⟩
theorem hands_list {g : V → List Nat → Option (V × List Nat)} {t : V → M V} (hgt : Hands σ Kc Hc w0 w' K0 H0 g t) (G : List V → List Nat → Option (List V × List Nat)) (T : List V → M (List V))
    (hG0:∀ ls,G [] ls = some ([],ls)) (hG:∀ v vs ls,G (v :: vs) ls = (g v ls).bind fun x => (G vs x.2).bind fun y => some (x.1 :: y.1,y.2))
    (hT0:T [] = M.ret []) (hT:∀ v vs,T (v :: vs) = (t v).bind fun v' => (T vs).bind fun vs' => M.ret (v' :: vs')) :
    ∀ (rs : List V) ls rs' ls' (xs : List Value) K H us H', rs.length = xs.length → (∀ (i : Nat) a b, rs[i]? = some a → xs[i]? = some b → Rel σ Kc w' a b) → G rs ls = some (rs', ls') → T rs' H = some (us, H') →
      Mid σ Kc Hc w0 w' K0 H0 ls K H → ∃ K', us.length = xs.length ∧ (∀ (i : Nat) a b, us[i]? = some a → xs[i]? = some b → Rel σ K' w' a b) ∧ Mid σ Kc Hc w0 w' K0 H0 ls' K' H' ∧ Moves K K' w' w' ∧
        ((∀ r ∈ rs,r.isCell = true) → ∀ u ∈ us,u.isCell = true)
  | [], ls, rs', ls', xs, K, H, us, H', hl, hr, hg, ht, mid => by
    rw [hG0] at hg
    simp only [Option.some.injEq,Prod.mk.injEq] at hg
    obtain ⟨rfl,rfl⟩:=hg
    rw [hT0] at ht
    simp only [M.ret,Option.some.injEq,Prod.mk.injEq] at ht
    obtain ⟨rfl,rfl⟩:=ht
    exact ⟨K,hl,fun i a b ha => by simp at ha,mid,moves_refl _ _,fun _ u hu => by simp at hu⟩
  | r :: rs, ls, rs', ls', xs, K, H, us, H', hl, hr, hg, ht, mid => by
    match xs,hl with
    | x :: xs,hl =>
    rw [hG] at hg
    cases h1:g r ls with
    | none => rw [h1] at hg; simp at hg
    | some y =>
      obtain ⟨r1,ls1⟩:=y
      rw [h1] at hg
      simp only [Option.bind_some] at hg
      cases h2:G rs ls1 with
      | none => rw [h2] at hg; simp at hg
      | some z =>
        obtain ⟨rs1,ls2⟩:=z
        rw [h2] at hg
        simp only [Option.bind_some,Option.some.injEq,Prod.mk.injEq] at hg
        obtain ⟨rfl,rfl⟩:=hg
        rw [hT] at ht
        obtain ⟨u1,H1,t1,ht⟩:=bind_eq ht
        obtain ⟨us1,H2,t2,ht⟩:=bind_eq ht
        simp only [M.ret,Option.some.injEq,Prod.mk.injEq] at ht
        obtain ⟨rfl,rfl⟩:=ht
        obtain ⟨K1,a1,a2,a3,a4⟩:=hgt r ls r1 ls1 x K H u1 H1 (hr 0 r x rfl rfl) h1 t1 mid
        obtain ⟨K2,b1,b2,b3,b4,b5⟩:=hands_list hgt G T hG0 hG hT0 hT rs ls1 rs1 ls2 xs K1 H1 us1 H2 (by simpa using hl) (fun i a b ha hb => hr (i + 1) a b (by simpa using ha) (by simpa using hb)) h2 t2 a2
        refine ⟨K2,by simp [b1],fun i a b ha hb => ?_,b3,moves_trans a3 b4,fun hcell u hu => ?_⟩
        · cases i with
          | zero => simp at ha hb; subst ha; subst hb; exact a1.mono b4
          | succ i => simp at ha hb; exact b2 i a b ha hb
        · simp at hu
          rcases hu with rfl | hu
          · exact a4 (hcell r (List.mem_cons_self ..))
          · exact b5 (fun r hr => hcell r (List.mem_cons_of_mem _ hr)) u hu
theorem hands_rows {g : V → List Nat → Option (V × List Nat)} {t : V → M V} (hgt : Hands σ Kc Hc w0 w' K0 H0 g t) :
    ∀ (rows : List (List V)) ls rows' ls' (val : Nat → Nat → Value) K H us H', (∀ (i : Nat) r (j : Nat) c, rows[i]? = some r → r[j]? = some c → Rel σ Kc w' c (val i j)) → givesRows g rows ls = some (rows', ls') → takesRows t rows' H = some (us, H') →
      Mid σ Kc Hc w0 w' K0 H0 ls K H → ∃ K', us.length = rows.length ∧ (∀ (i : Nat) u, us[i]? = some u → ∃ r, rows[i]? = some r ∧ u.length = r.length ∧ ((∀ c ∈ r, c.isCell = true) → ∀ c ∈ u, c.isCell = true)) ∧
        (∀ (i:Nat) u (j:Nat) c,us[i]? = some u → u[j]? = some c → Rel σ K' w' c (val i j)) ∧ Mid σ Kc Hc w0 w' K0 H0 ls' K' H' ∧ Moves K K' w' w'
  | [], ls, rows', ls', val, K, H, us, H', hr, hg, ht, mid => by
    simp only [givesRows,Option.some.injEq,Prod.mk.injEq] at hg
    obtain ⟨rfl,rfl⟩:=hg
    simp only [takesRows,M.ret,Option.some.injEq,Prod.mk.injEq] at ht
    obtain ⟨rfl,rfl⟩:=ht
    exact ⟨K,rfl,fun i u h => by simp at h,fun i u j c h => by simp at h,mid,moves_refl _ _⟩
  | r :: rows, ls, rows', ls', val, K, H, us, H', hr, hg, ht, mid => by
    simp only [givesRows] at hg
    cases h1:givesD g r ls with
    | none => rw [h1] at hg; simp at hg
    | some y =>
    obtain ⟨r1,ls1⟩:=y
    rw [h1] at hg
    simp only [Option.bind_some] at hg
    cases h2:givesRows g rows ls1 with
    | none => rw [h2] at hg; simp at hg
    | some z =>
    obtain ⟨rs1,ls2⟩:=z
    rw [h2] at hg
    simp only [Option.bind_some,Option.some.injEq,Prod.mk.injEq] at hg
    obtain ⟨rfl,rfl⟩:=hg
    simp only [takesRows] at ht
    obtain ⟨u1,H1,t1,ht⟩:=bind_eq ht
    obtain ⟨us1,H2,t2,ht⟩:=bind_eq ht
    simp only [M.ret,Option.some.injEq,Prod.mk.injEq] at ht
    obtain ⟨rfl,rfl⟩:=ht
    have hx : ∀ (j : Nat) y, ((List.range r.length).map (val 0))[j]? = some y → y = val 0 j := fun j y hj => by
      rw [List.getElem?_map] at hj
      by_cases hlt:j < r.length
      · rw [List.getElem?_range hlt] at hj
        simp at hj
        exact hj.symm
      · rw [List.getElem?_eq_none (by simpa using hlt)] at hj
        cases hj
    obtain ⟨K1, b1, b2, b3, b4, b5⟩ := hands_list hgt (givesD g) (takesD t) (fun _ => rfl) (fun _ _ _ => rfl) rfl (fun _ _ => rfl) r ls r1 ls1 ((List.range r.length).map (val 0)) K H u1 H1 (by simp)
      (fun i a b ha hb => by rw [hx i b hb]; exact hr 0 r i a rfl ha) h1 t1 mid
    obtain ⟨K2,c1,c2,c3,c4,c5⟩:=hands_rows hgt rows ls1 rs1 ls2 (fun i j => val (i + 1) j) K1 H1 us1 H2 (fun i r j c hi hj => hr (i + 1) r j c (by simpa using hi) hj) h2 t2 b3
    refine ⟨K2,by simp [c1],fun i u hi => ?_,fun i u j c hi hj => ?_,c4,moves_trans b4 c5⟩
    · cases i with
      | zero =>
        simp at hi
        subst hi
        exact ⟨r,rfl,by simpa using b1,b5⟩
      | succ i =>
        simp at hi
        obtain ⟨r',q1,q2⟩:=c2 i u hi
        exact ⟨r',by simpa using q1,q2⟩
    · cases i with
      | zero =>
        simp at hi
        subst hi
        have hlt : j < r.length := by
          have:=(List.getElem?_eq_some_iff.1 hj).1
          rw [b1] at this
          simpa using this
        exact (b2 j c (val 0 j) hj (by rw [List.getElem?_map,List.getElem?_range hlt]; rfl)).mono c5
      | succ i =>
        simp at hi
        exact c3 i u j c hi hj
theorem hands_giveD (ic : Inv σ Kc Hc w') (hfresh : ∀ l B, Hc.blk l = some B → w0.heap.size ≤ (Kc.ρ l).1) (i0 : ∀ b, K0.I b → b < w0.heap.size) (hfl : H0.floor ≤ H0.next) (hnx : K0.nx = H0.next) :
    ∀ d,Hands σ Kc Hc w0 w' K0 H0 (giveD d Hc) (takeD d):=by
  have flatCase : ∀ (d : Nat) r ls r' ls' x K H u H', Rel σ Kc w' r x → (if r.flat then some (r, ls) else none) = some (r', ls') → takeD d r' H = some (u, H') → (∀ z rows, r ≠ .deep z rows) → Mid σ Kc Hc w0 w' K0 H0 ls K H →
      ∃ K',Rel σ K' w' u x ∧ Mid σ Kc Hc w0 w' K0 H0 ls' K' H' ∧ Moves K K' w' w' ∧ (r.isCell = true → u.isCell = true):=fun d r ls r' ls' x K H u H' hr hg ht hnd mid => by
    split at hg
    · rename_i hf
      simp only [Option.some.injEq,Prod.mk.injEq] at hg
      obtain ⟨rfl,rfl⟩:=hg
      have htt : takeD d r H = some (r, H) := by
        cases d with
        | zero => rfl
        | succ d => cases r <;> first | rfl | exact absurd rfl (hnd _ _)
      rw [htt] at ht
      simp only [Option.some.injEq,Prod.mk.injEq] at ht
      obtain ⟨rfl,rfl⟩:=ht
      exact ⟨K,hr.flat hf,mid,moves_refl _ _,fun h => h⟩
    · cases hg
  intro d
  induction d with
  | zero =>
    intro r ls r' ls' x K H u H' hr hg ht mid
    exact flatCase 0 r ls r' ls' x K H u H' hr hg ht (by intro z rows; cases hr <;> simp) mid
  | succ d ih =>
    intro r ls r' ls' x K H u H' hr hg ht mid
    cases hr with
    | ref l sz s n c ex a cap b off hl hρ hn hc hex ha hmt =>
      have hm':=tag_not hρ hmt
      simp only [giveD] at hg
      cases hB:Hc.blk l with
      | none => rw [hB] at hg; simp at hg
      | some B =>
        rw [hB] at hg
        simp only [Option.bind_some] at hg
        split at hg
        case isFalse => cases hg
        rename_i h1
        cases hgr:givesRows (giveD d Hc) ((B.rows.drop s).take n) ls with
        | none => rw [hgr] at hg; simp at hg
        | some y =>
        obtain ⟨rows',ls1⟩:=y
        rw [hgr] at hg
        simp only [Option.bind_some] at hg
        split at hg
        case isFalse => cases hg
        rename_i h3
        simp only [Option.some.injEq,Prod.mk.injEq] at hg
        obtain ⟨rfl,rfl⟩:=hg
        simp only [takeD] at ht
        obtain ⟨us,H1,t1,ht⟩:=bind_eq ht
        simp only [newRows,Option.some.injEq,Prod.mk.injEq] at ht
        obtain ⟨rfl,rfl⟩:=ht
        have hBB:=ic.blk l B hB
        obtain ⟨cs,e,g1,g2,g3⟩:=hBB.at' hm'
        have hz:=hBB.sz
        have hfr:=hfresh l B hB
        rw [hρ] at g1 g2 g3 hz hfr
        simp only at g1 g2 g3 hz hfr
        subst hz
        have hlen:((B.rows.drop s).take n).length = n:=by rw [List.length_take,List.length_drop]; omega
        have get : ∀ (i : Nat) r, ((B.rows.drop s).take n)[i]? = some r → B.rows[s + i]? = some r := fun i r hi => by
          rw [List.getElem?_take] at hi
          split at hi
          · rwa [List.getElem?_drop] at hi
          · cases hi
        have hmul:(s + n) * B.sz ≤ B.rows.length * B.sz:=Nat.mul_le_mul_right _ h1
        rw [Nat.add_mul] at hmul
        have hval : ∀ (i : Nat) r (j : Nat) c, ((B.rows.drop s).take n)[i]? = some r → r[j]? = some c → c.isCell = true ∧ cs[off + s * B.sz + i * B.sz + j]? = some ((cs[off + s * B.sz + i * B.sz + j]?).getD Go.undef) ∧ Rel σ Kc w' c ((cs[off + s * B.sz + i * B.sz + j]?).getD Go.undef) := fun i r j c hi hj => by
          obtain ⟨q1,y,q2,q3⟩:=g3 (s + i) r j c (get i r hi) hj
          rw [Nat.add_mul,← Nat.add_assoc] at q2
          rw [q2]
          exact ⟨q1,rfl,q3⟩
        obtain ⟨K1,b1,b2,b3,b4,b5⟩:=hands_rows ih ((B.rows.drop s).take n) ls rows' ls1 (fun i j => (cs[off + s * B.sz + i * B.sz + j]?).getD Go.undef) K H us H1 (fun i r j c hi hj => (hval i r j c hi hj).2.2) hgr t1 mid
        have hul:us.length = n:=b1.trans hlen
        obtain ⟨K', j1, j2, j3, j4, j5, j6, j7, j8⟩ := b4.inv.adopt b4.evo (blk := b) (off := off + s * B.sz) (sz := B.sz) (rows := us) (cs := cs) (e := e)
          (fun u hu => by
            obtain ⟨i,hi⟩:=List.getElem?_of_mem hu
            obtain ⟨r,q1,q2,_⟩:=b2 i u hi
            rw [q2]
            exact hBB.rows' hm' r (List.mem_of_mem_drop (List.mem_of_mem_take (List.mem_of_getElem? q1)))) g1 (by rw [hul]; omega)
          (fun i u j cc hi hj => by
            obtain ⟨r,q1,q2,q3⟩:=b2 i u hi
            have hlt:j < r.length:=by rw [← q2]; exact (List.getElem?_eq_some_iff.1 hj).1
            have hv:=hval i r j _ q1 (List.getElem?_eq_getElem hlt)
            refine ⟨q3 (fun c hc => ?_) cc (List.mem_of_getElem? hj),_,hv.2.1,b3 i u j cc hi hj⟩
            obtain ⟨k,hk⟩:=List.getElem?_of_mem hc
            exact (hval i r k c q1 hk).1)
          (by
            rintro ⟨t1,t2⟩
            rw [t2] at t1
            exact hmt ⟨by simpa using t1,t2⟩)
          hfr (by rw [b4.I]; exact fun h => by have:=i0 b h; omega)
          (fun l' B' hB' he => by
            rcases b4.seen l' B' hB' with g | ⟨lc,q1,⟨B2,q2⟩,q3⟩
            · omega
            · have:lc = l:=ic.inj lc l B2 B q2 hB (by rw [q3,hρ]; exact he)
              subst this
              exact h3 q1)
          b4.evo.nx (by rw [← hnx] at hfl; exact Nat.le_trans hfl b4.evo.nx)
        have hnn:K1.nx = H1.next:=b4.inv.nx
        rw [hnn] at j4 j8
        refine ⟨K',?_,⟨j1,j2,?_,j6.trans b4.I⟩,moves_trans b5 j7,fun _ => rfl⟩
        · rw [hul]
          exact .ref _ _ 0 n n false a cap b (off + s * B.sz) j8 j4 (Nat.le_refl _) (by omega) (fun h => by cases h) (fun h0 => by
            obtain ⟨rfl,cs',e',f',q1,q2⟩:=ha h0
            exact ⟨by simp,cs',e',f',q1,by rw [Nat.add_mul] at q2; rw [Nat.zero_add]; omega⟩) (by
            rintro ⟨t1,t2⟩
            rw [t2] at t1
            exact hmt ⟨by simpa using t1,t2⟩)
        · intro l' B' hB'
          by_cases e':l' = H1.next
          · subst e'
            rw [j4]
            exact .inr ⟨l,List.mem_cons_self ..,⟨B,hB⟩,by rw [hρ]⟩
          · have hold:H1.blk l' = some B':=by have:(if l' = H1.next then _ else _) = some B':=hB'; rwa [if_neg e'] at this
            have hlt:=(b4.inv.blk l' B' hold).lt
            rw [j5 l' hlt]
            rcases b4.seen l' B' hold with g | ⟨lc,q1,q2⟩
            · exact .inl g
            · exact .inr ⟨lc,List.mem_cons_of_mem _ q1,q2⟩
    | _ => exact flatCase (d + 1) _ ls r' ls' _ K H u H' (by constructor <;> assumption) (by simpa [giveD] using hg) ht (by intro z rows; simp) mid
theorem giveD_ref {d : Nat} {h : Heap} {l z s n c : Nat} {ex : Bool} {r : V} {ls ls' : List Nat} (hg : giveD (d + 1) h (.ref l z s n c ex) ls = some (r, ls')) : ∃ z rows, r = .deep z rows := by
  simp only [giveD] at hg
  cases hB:h.blk l with
  | none => rw [hB] at hg; simp at hg
  | some B =>
    rw [hB] at hg
    simp only [Option.bind_some] at hg
    split at hg
    case isFalse => cases hg
    cases hgr:givesRows (giveD d h) ((B.rows.drop s).take n) ls with
    | none => rw [hgr] at hg; simp at hg
    | some y =>
      rw [hgr] at hg
      simp only [Option.bind_some] at hg
      split at hg
      · simp only [Option.some.injEq,Prod.mk.injEq] at hg
        exact ⟨_,_,hg.1.symm⟩
      · cases hg
theorem hands_give (ic : Inv σ Kc Hc w') (hfresh : ∀ l B, Hc.blk l = some B → w0.heap.size ≤ (Kc.ρ l).1) (i0 : ∀ b, K0.I b → b < w0.heap.size) (hfl : H0.floor ≤ H0.next) (hnx : K0.nx = H0.next) :
    Hands σ Kc Hc w0 w' K0 H0 (give Hc) take1:=by
  intro r ls r' ls' x K H u H' hr hg ht mid
  have flatCase : (if r.flat then some (r, ls) else none) = some (r', ls') → (∀ z rows, r ≠ .own z rows) → (∀ z rows, r ≠ .deep z rows) →
      ∃ K',Rel σ K' w' u x ∧ Mid σ Kc Hc w0 w' K0 H0 ls' K' H' ∧ Moves K K' w' w' ∧ (r.isCell = true → u.isCell = true):=fun hg hno hnd => by
    split at hg
    · rename_i hf
      simp only [Option.some.injEq,Prod.mk.injEq] at hg
      obtain ⟨rfl,rfl⟩:=hg
      have htt:take1 r H = some (r,H):=by cases r <;> first | rfl | exact absurd rfl (hno _ _) | exact absurd rfl (hnd _ _)
      rw [htt] at ht
      simp only [Option.some.injEq,Prod.mk.injEq] at ht
      obtain ⟨rfl,rfl⟩:=ht
      exact ⟨K,hr.flat hf,mid,⟨fun _ h => h,fun _ _ => rfl,fun _ h => h,fun _ _ => rfl,fun b cs e f h => ⟨cs,f,h,rfl⟩⟩,fun h => h⟩
    · cases hg
  have hr0:=hr
  cases hr with
  | ref l sz s n c ex a cap b off hl hρ hn hc hex ha hmt =>
    have hm':=tag_not hρ hmt
    simp only [give] at hg
    cases hB:Hc.blk l with
    | none => rw [hB] at hg; simp at hg
    | some B =>
      rw [hB] at hg
      simp only [Option.bind_some] at hg
      split at hg
      · rename_i hh
        obtain ⟨h1,h2,h3⟩:=hh
        simp only [Option.some.injEq,Prod.mk.injEq] at hg
        obtain ⟨rfl,rfl⟩:=hg
        simp only [take1,newRows,Option.some.injEq,Prod.mk.injEq] at ht
        obtain ⟨rfl,rfl⟩:=ht
        have hBB:=ic.blk l B hB
        obtain ⟨cs,e,g1,g2,g3⟩:=hBB.at' hm'
        have hz:=hBB.sz
        have hfr:=hfresh l B hB
        rw [hρ] at g1 g2 g3 hz hfr
        simp only at g1 g2 g3 hz hfr
        subst hz
        have hlen:((B.rows.drop s).take n).length = n:=by rw [List.length_take,List.length_drop]; omega
        have get : ∀ (i : Nat) r, ((B.rows.drop s).take n)[i]? = some r → B.rows[s + i]? = some r := fun i r hi => by
          rw [List.getElem?_take] at hi
          split at hi
          · rwa [List.getElem?_drop] at hi
          · cases hi
        have hmul:(s + n) * B.sz ≤ B.rows.length * B.sz:=Nat.mul_le_mul_right _ h1
        rw [Nat.add_mul] at hmul
        obtain ⟨K', j1, j2, j3, j4, j5, j6, j7, j8⟩ := mid.inv.adopt mid.evo (blk := b) (off := off + s * B.sz) (sz := B.sz) (rows := (B.rows.drop s).take n) (cs := cs) (e := e)
          (fun r hr => hBB.rows' hm' r (List.mem_of_mem_drop (List.mem_of_mem_take hr))) g1 (by rw [hlen]; omega)
          (fun i r j cc hi hj => by
            obtain ⟨q1,y,q2,q3⟩:=g3 (s + i) r j cc (get i r hi) hj
            rw [Nat.add_mul,← Nat.add_assoc] at q2
            exact ⟨q1,y,q2,q3.flat (flatRows_mem h2 r (List.mem_of_getElem? hi) cc (List.mem_of_getElem? hj))⟩)
          (by
            rintro ⟨t1,t2⟩
            rw [t2] at t1
            exact hmt ⟨by simpa using t1,t2⟩)
          hfr (by rw [mid.I]; exact fun h => by have:=i0 b h; omega)
          (fun l' B' hB' he => by
            rcases mid.seen l' B' hB' with g | ⟨lc,q1,⟨B2,q2⟩,q3⟩
            · omega
            · have:lc = l:=ic.inj lc l B2 B q2 hB (by rw [q3,hρ]; exact he)
              subst this
              exact h3 q1)
          mid.evo.nx (by rw [← hnx] at hfl; exact Nat.le_trans hfl mid.evo.nx)
        have hnn:K.nx = H.next:=mid.inv.nx
        rw [hnn] at j4 j8
        refine ⟨K',?_,⟨j1,j2,?_,j6.trans mid.I⟩,j7,fun _ => rfl⟩
        · rw [hlen]
          exact .ref _ _ 0 n n false a cap b (off + s * B.sz) j8 j4 (Nat.le_refl _) (by omega) (fun h => by cases h) (fun h0 => by
            obtain ⟨rfl,cs',e',f',q1,q2⟩:=ha h0
            exact ⟨by simp,cs',e',f',q1,by rw [Nat.add_mul] at q2; rw [Nat.zero_add]; omega⟩) (by
            rintro ⟨t1,t2⟩
            rw [t2] at t1
            exact hmt ⟨by simpa using t1,t2⟩)
        · intro l' B' hB'
          by_cases e':l' = H.next
          · subst e'
            rw [j4]
            exact .inr ⟨l,List.mem_cons_self ..,⟨B,hB⟩,by rw [hρ]⟩
          · have hold:H.blk l' = some B':=by have:(if l' = H.next then _ else _) = some B':=hB'; rwa [if_neg e'] at this
            have hlt:=(mid.inv.blk l' B' hold).lt
            rw [j5 l' hlt]
            rcases mid.seen l' B' hold with g | ⟨lc,q1,q2⟩
            · exact .inl g
            · exact .inr ⟨lc,List.mem_cons_of_mem _ q1,q2⟩
      · obtain ⟨z',rows',rfl⟩:=giveD_ref hg
        exact hands_giveD ic hfresh i0 hfl hnx 4 _ ls _ ls' _ K H u H' hr0 hg ht mid
  | _ => exact flatCase (by simpa [give] using hg) (by intro z rows; simp) (by intro z rows; simp)
theorem give_shape {h : Heap} {v r : V} {ls ls' : List Nat} (hg : give h v ls = some (r, ls')) : r.flat = true ∨ (∃ z rows, r = .own z rows) ∨ ∃ z rows, r = .deep z rows := by
  unfold give at hg
  split at hg
  · rename_i l z s n c ex
    cases hB:h.blk l with
    | none => rw [hB] at hg; simp at hg
    | some B =>
      rw [hB] at hg
      simp only [Option.bind_some] at hg
      split at hg
      · simp only [Option.some.injEq,Prod.mk.injEq] at hg
        exact .inr (.inl ⟨_,_,hg.1.symm⟩)
      · exact .inr (.inr (giveD_ref hg))
  · split at hg
    · rename_i hf
      simp only [Option.some.injEq,Prod.mk.injEq] at hg
      rw [← hg.1]
      exact .inl hf
    · cases hg
theorem hands_give2 (h1 : Hands σ Kc Hc w0 w' K0 H0 (give Hc) take1) : Hands σ Kc Hc w0 w' K0 H0 (give2 Hc) take2 := by
  intro r ls r' ls' x K H u H' hr hg ht mid
  by_cases ha:∃ l,r = .agg l
  · obtain ⟨l, rfl⟩ := ha
    cases hr with
    | agg _ cs hl hc hrl =>
      simp only [give2] at hg
      cases h2:gives Hc l ls with
      | none => rw [h2] at hg; simp at hg
      | some y =>
        obtain ⟨l1,ls1⟩:=y
        rw [h2] at hg
        simp only [Option.bind_some,Option.some.injEq,Prod.mk.injEq] at hg
        obtain ⟨rfl,rfl⟩:=hg
        simp only [take2] at ht
        obtain ⟨us,H1,t1,ht⟩:=bind_eq ht
        simp only [M.ret,Option.some.injEq,Prod.mk.injEq] at ht
        obtain ⟨rfl,rfl⟩:=ht
        obtain ⟨K1,b1,b2,b3,b4,b5⟩:=hands_list h1 (gives Hc) takes (fun _ => rfl) (fun _ _ _ => rfl) rfl (fun _ _ => rfl) l ls l1 ls1 cs.toList K H us H1 (by simpa using hl) (fun i a b ha hb => hrl i a b ha (by simpa using hb)) h2 t1 mid
        exact ⟨K1,.agg us cs (by simpa using b1) (b5 hc) (fun i a b ha hb => b2 i a b ha (by simpa using hb)),b3,b4,fun h => by cases h⟩
  · have hg' : give Hc r ls = some (r', ls') := by cases r <;> first | exact absurd ⟨_, rfl⟩ ha | exact hg
    have hna : ∀ l, r' ≠ .agg l := fun l e => by
      rcases give_shape hg' with h | ⟨z,rows,h⟩ | ⟨z,rows,h⟩
      · rw [e] at h; cases h
      · rw [e] at h; cases h
      · rw [e] at h; cases h
    have ht':take1 r' H = some (u,H'):=by cases r' <;> first | exact absurd rfl (hna _) | exact ht
    exact h1 r ls r' ls' x K H u H' hr hg' ht' mid
theorem ok_callOwn {f : FuncId} {cf : List V → M V} (hf : SoundF C σ f cf) : SoundF C σ f (callP true cf) := by
  intro K H w vs xs v H' inv gl ar h
  have hfl:=inv.flo
  unfold callP at h
  cases hm:vs.mapM (thawV true H) with
  | none => rw [hm] at h; simp at h
  | some as =>
  rw [hm] at h
  simp only [Option.bind_some] at h
  cases hr:cf as Heap.empty with
  | none => rw [hr] at h; simp at h
  | some rh =>
  obtain ⟨r,Hc⟩:=rh
  rw [hr] at h
  simp only [Option.bind_some,if_true] at h
  cases hg:giveV Hc r with
  | none => rw [hg] at h; simp at h
  | some u =>
  rw [hg] at h
  simp only [Option.bind_some] at h
  have c4 : ArgsRel σ ⟨fun b => b < w.heap.size, fun _ => (0, 0, 0), 0, fun _ => False⟩ w as xs := by
    obtain ⟨m1,m2⟩:=mapM_get hm
    refine ⟨m1.symm.trans ar.1,fun i a b ha hb => ?_⟩
    have hlt:i < vs.length:=by rw [m1]; exact (List.getElem?_eq_some_iff.1 ha).1
    obtain ⟨b',q1,q2⟩:=m2 i _ (List.getElem?_eq_getElem hlt)
    rw [ha] at q1
    injection q1 with q1
    subst q1
    refine thawV_rel inv (ar.2 i _ b (List.getElem?_eq_getElem hlt) hb) q2 _ (fun l B hB => ?_) (fun _ => inv.imm)
    exact (inv.blk l B hB).lt_size
  have inv0:Inv σ ⟨fun b => b < w.heap.size,fun _ => (0,0,0),0,fun _ => False⟩ Heap.empty w:=⟨rfl,fun _ h => h.elim,Nat.le_refl _,fun l B h => (by simp [Heap.empty] at h),fun l l' B B' h => (by simp [Heap.empty] at h),fun _ h => h⟩
  refine ⟨(hf _ _ w as xs r Hc inv0 (gl.sub inv.imm) c4 hr).1,(hf _ _ w as xs r Hc inv0 (gl.sub inv.imm) c4 hr).2.mono fun e w' he => ?_⟩
  obtain ⟨x,rfl,Kc,r1,r2,r3⟩:=he
  have fr:∀ b,b < w.heap.size → w'.heap[b]? = w.heap[b]?:=fun b hb => r3.frame b hb (fun l B h => (by simp [Heap.empty] at h))
  have fresh : ∀ l B, Hc.blk l = some B → w.heap.size ≤ (Kc.ρ l).1 := fun l B hB => by
    rcases Nat.lt_or_ge (Kc.ρ l).1 w.heap.size with g | g
    · obtain ⟨l0,B0,h0,_⟩:=r3.range l B hB g
      simp [Heap.empty] at h0
    · exact g
  have evo : Evo K H w K H w' := {
    I:=fun _ h => h
    ρ:=fun _ _ => rfl
    D:=fun _ h => h
    nx:=Nat.le_refl _
    floor:=rfl
    low:=fun _ _ _ => rfl
    frame:=fun b hb _ => fr b hb
    shape:=fun b cs e f h => ⟨cs,f,(fr b (Array.getElem?_eq_some_iff.1 h).1).trans h,rfl⟩
    size:=r3.size
    os:=r3.os
    tape:=r3.tape
    output:=r3.output
    range:=fun l B h _ => ⟨l,B,h,rfl,.inl rfl⟩
    newI:=fun b h hb => h
    newD:=fun _ h _ => h }
  have mv:=inv.moves evo
  have inv' : Inv σ K H w' := by
    refine ⟨inv.nx,inv.dom,inv.flo,fun l B hB => ?_,inv.inj,fun b hb => Nat.lt_of_lt_of_le (inv.imm b hb) r3.size⟩
    have h0:=inv.blk l B hB
    exact h0.keep mv h0.lt rfl (fr _ h0.lt_size) h0.own
  have mid:Mid σ Kc Hc w w' K H [] K H:=⟨inv',evo,fun l B hB => .inl (inv.blk l B hB).lt_size,rfl⟩
  have hd1:Hands σ Kc Hc w w' K H (give Hc) take1:=hands_give r2 fresh inv.imm hfl inv.nx
  have hd2:=hands_give2 hd1
  by_cases hta:∃ l,r = .tuple l
  · obtain ⟨l, rfl⟩ := hta
    cases r1 with
    | tuple _ cs hl hrl =>
      simp only [giveV] at hg
      cases h2:gives2 Hc l [] with
      | none => rw [h2] at hg; simp at hg
      | some y =>
        obtain ⟨l1,ls1⟩:=y
        rw [h2] at hg
        simp only [Option.bind_some,Option.some.injEq] at hg
        subst hg
        simp only [takeV] at h
        obtain ⟨us,H1,t1,ht⟩:=bind_eq h
        simp only [M.ret,Option.some.injEq,Prod.mk.injEq] at ht
        obtain ⟨rfl,rfl⟩:=ht
        obtain ⟨K1,b1,b2,b3,b4,b5⟩:=hands_list hd2 (gives2 Hc) takes2 (fun _ => rfl) (fun _ _ _ => rfl) rfl (fun _ _ => rfl) l [] l1 ls1 cs.toList K H us H1 (by simpa using hl) (fun i a b ha hb => hrl i a b ha (by simpa using hb)) h2 t1 mid
        exact ⟨_,rfl,K1,.tuple us cs (by simpa using b1) (fun i a b ha hb => b2 i a b ha (by simpa using hb)),b3.inv,b3.evo⟩
  · have hg' : (give2 Hc r []).bind (fun x => some x.1) = some u := by cases r <;> first | exact absurd ⟨_, rfl⟩ hta | exact hg
    cases h2:give2 Hc r [] with
    | none => rw [h2] at hg'; simp at hg'
    | some y =>
      obtain ⟨r1',ls1⟩:=y
      rw [h2] at hg'
      simp only [Option.bind_some,Option.some.injEq] at hg'
      subst hg'
      have hnt : ∀ l, r1' ≠ .tuple l := fun l e => by
        subst e
        by_cases ha:∃ l,r = .agg l
        · obtain ⟨l',rfl⟩:=ha
          simp only [give2] at h2
          cases h3:gives Hc l' [] with
          | none => rw [h3] at h2; simp at h2
          | some z => rw [h3] at h2; simp at h2
        · have h3:give Hc r [] = some (V.tuple l,ls1):=by cases r <;> first | exact absurd ⟨_,rfl⟩ ha | exact h2
          rcases give_shape h3 with h | ⟨z,rows,h⟩ | ⟨z,rows,h⟩ <;> cases h
      have ht':take2 r1' H = some (v,H'):=by cases r1' <;> first | exact absurd rfl (hnt _) | exact h
      obtain ⟨K1,a1,a2,_,_⟩:=hd2 r [] r1' ls1 x K H v H' r1 h2 ht' mid
      exact ⟨_,rfl,K1,a1,a2.inv,a2.evo⟩
end
end Go.Fv
