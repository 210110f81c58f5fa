/-
  Calls: what a callee sees, and what it hands back. By an AI agent; no person has read it.
-/
import Derived.Test.YtekncgjkocgioaaGreatDoorFvP09
set_option linter.unusedVariables false
set_option linter.unusedSimpArgs false
set_option linter.unusedSectionVars false
/-! Calls: what a callee sees, and what it hands back. -/
namespace Go.Fv
open Go
section
variable {C:Cfg} {σ:Nat → Addr} {K:Ctx} {H H':Heap} {w:World} {v:V}
theorem mapM_get {α β : Type} {f : α → Option β} : ∀ {l : List α} {l' : List β}, l.mapM f = some l' → l.length = l'.length ∧ ∀ (i : Nat) a, l[i]? = some a → ∃ b, l'[i]? = some b ∧ f a = some b
  | [],l',h => by simp at h; subst h; exact ⟨rfl,fun i a h => by simp at h⟩
  | x :: l, l', h => by
    rw [List.mapM_cons] at h
    cases hx:f x with
    | none => rw [hx] at h; cases h
    | some y =>
      rw [hx] at h
      cases hl:l.mapM f with
      | none => rw [hl] at h; cases h
      | some ys =>
        rw [hl] at h
        have h:some (y :: ys) = some l':=h
        injection h with h
        subst h
        obtain ⟨h1,h2⟩:=mapM_get hl
        refine ⟨by simp [h1],fun i a ha => ?_⟩
        cases i with
        | zero => simp at ha; subst ha; exact ⟨y,rfl,hx⟩
        | succ i => simp at ha; obtain ⟨b,h3,h4⟩:=h2 i a ha; exact ⟨b,by simpa using h3,h4⟩
theorem Rel.flat {K2 : Ctx} {x : Value} (h : Rel σ K w v x) (hv : v.flat = true) : Rel σ K2 w v x := by
  cases h with
  | iface t u y hc hu =>
    cases hu <;> simp [V.flat] at hv
    exact .iface t _ _ hc (.ext _)
  | bool b => exact .bool b
  | int k n => exact .int k n
  | str s => exact .str s
  | nilp => exact .nilp
  | ext k => exact .ext k
  | nils => exact .nils
  | emp a => exact .emp a
  | nili => exact .nili
  | nilf => exact .nilf
  | _ => simp [V.flat] at hv
theorem flatRows_mem {rows:List (List V)} (h:flatRows rows = true):∀ r ∈ rows,∀ c ∈ r,c.flat = true:=fun r hr c hc => by
 unfold flatRows at h
 rw [List.all_eq_true] at h
 exact List.all_eq_true.1 (h r hr) c hc
theorem ref_imm (inv : Inv σ K H w) {l sz s n c : Nat} {ex : Bool} {x : Value} (h : Rel σ K w (.ref l sz s n c ex) x) {B : Blk} (hB : H.blk l = some B) (hle : s + n ≤ B.rows.length)
    (hfl:flatRows ((B.rows.drop s).take n) = true) {K2:Ctx} (hI:K2.I (K.ρ l).1):Rel σ K2 w (.imm sz ((B.rows.drop s).take n)) x:=by
  cases h with
  | ref _ _ _ _ _ _ a cap b off hl hρ hn hc hex ha hmt =>
    have hm':=tag_not hρ hmt
    have hlen:((B.rows.drop s).take n).length = n:=by rw [List.length_take,List.length_drop]; omega
    by_cases h0:n = 0
    · subst h0
      rw [List.take_zero]
      exact .imm0 _ _ _
    · obtain ⟨rfl, _⟩ := ha (by omega)
      have hBB:=inv.blk l B hB
      obtain ⟨cs,e,g1,g2,g3⟩:=hBB.at' hm'
      have hz:=hBB.sz
      rw [hρ] at g1 g2 g3 hz hI
      simp only at g1 g2 g3 hz hI
      subst hz
      have get : ∀ (i : Nat) r, ((B.rows.drop s).take n)[i]? = some r → B.rows[s + i]? = some r := fun i r hi => by
        rw [List.getElem?_take] at hi
        split at hi
        · rwa [List.getElem?_drop] at hi
        · cases hi
      have hk := Rel.imm (σ := σ) (K := K2) (w := w) B.sz ((B.rows.drop s).take n) b (off + s * B.sz) cap (fun i j => (w.cell? ⟨b, off + s * B.sz + i * B.sz + j, none⟩).getD Go.undef) hI (by rw [hlen]; omega)
        (fun r hr => hBB.rows' hm' r (List.mem_of_mem_drop (List.mem_of_mem_take hr))) (fun r hr c hc => V.closed_of_flat (flatRows_mem hfl r hr c hc))
        (fun i r j c hi hj => by
          obtain ⟨_,y,q1,_⟩:=g3 (s + i) r j c (get i r hi) hj
          rw [Nat.add_mul,← Nat.add_assoc] at q1
          rw [g1.cell,q1]
          rfl)
        (fun i r j c hi hj => by
          obtain ⟨_,y,q1,q2⟩:=g3 (s + i) r j c (get i r hi) hj
          rw [Nat.add_mul,← Nat.add_assoc] at q1
          rw [g1.cell,q1]
          exact q2.flat (flatRows_mem hfl r (List.mem_of_getElem? hi) c (List.mem_of_getElem? hj)))
      rwa [hlen] at hk
theorem ref_immD (inv : Inv σ K H w) {l sz s n c : Nat} {ex : Bool} {x : Value} (h : Rel σ K w (.ref l sz s n c ex) x) {B : Blk} (hB : H.blk l = some B) (hle : s + n ≤ B.rows.length)
    {f:V → Option V} {rows:List (List V)} (hm0:mapRows f ((B.rows.drop s).take n) = some rows) {K2:Ctx} (hI:K2.I (K.ρ l).1) (hf:∀ c c' y,Rel σ K w c y → f c = some c' → Rel σ K2 w c' y ∧ c'.closed = true) :
    Rel σ K2 w (.imm sz rows) x:=by
  obtain ⟨m1,m2⟩:=mapM_get hm0
  cases h with
  | ref _ _ _ _ _ _ a cap b off hl hρ hn hc hex ha hmt =>
    have hm':=tag_not hρ hmt
    have hlen:((B.rows.drop s).take n).length = n:=by rw [List.length_take,List.length_drop]; omega
    have hlr:rows.length = n:=by rw [← m1,hlen]
    by_cases h0:n = 0
    · subst h0
      have:rows = []:=List.eq_nil_of_length_eq_zero hlr
      subst this
      exact .imm0 _ _ _
    · obtain ⟨rfl, _⟩ := ha (by omega)
      have hBB:=inv.blk l B hB
      obtain ⟨cs,e,g1,g2,g3⟩:=hBB.at' hm'
      have hz:=hBB.sz
      rw [hρ] at g1 g2 g3 hz hI
      simp only at g1 g2 g3 hz hI
      subst hz
      have get : ∀ (i : Nat) r', rows[i]? = some r' → ∃ r, B.rows[s + i]? = some r ∧ r.mapM f = some r' := fun i r' hi => by
        have hlt:i < ((B.rows.drop s).take n).length:=by rw [m1]; exact (List.getElem?_eq_some_iff.1 hi).1
        obtain ⟨b',q1,q2⟩:=m2 i _ (List.getElem?_eq_getElem hlt)
        rw [hi] at q1
        injection q1 with q1
        subst q1
        refine ⟨_,?_,q2⟩
        have h3:=List.getElem?_eq_getElem hlt
        rw [List.getElem?_take] at h3
        split at h3
        · rwa [List.getElem?_drop] at h3
        · cases h3
      have cell : ∀ (i : Nat) r' (j : Nat) c', rows[i]? = some r' → r'[j]? = some c' → Rel σ K2 w c' ((w.cell? ⟨b, off + s * B.sz + i * B.sz + j, none⟩).getD Go.undef) ∧ c'.closed = true ∧
          w.cell? ⟨b,off + s * B.sz + i * B.sz + j,none⟩ = some ((w.cell? ⟨b,off + s * B.sz + i * B.sz + j,none⟩).getD Go.undef):=fun i r' j c' hi hj => by
        obtain ⟨r,q1,q2⟩:=get i r' hi
        obtain ⟨p1,p2⟩:=mapM_get q2
        have hlt:j < r.length:=by rw [p1]; exact (List.getElem?_eq_some_iff.1 hj).1
        obtain ⟨c2,q3,q4⟩:=p2 j _ (List.getElem?_eq_getElem hlt)
        rw [hj] at q3
        injection q3 with q3
        subst q3
        obtain ⟨_,y,q5,q6⟩:=g3 (s + i) r j _ q1 (List.getElem?_eq_getElem hlt)
        rw [Nat.add_mul,← Nat.add_assoc] at q5
        rw [g1.cell,q5]
        exact ⟨(hf _ _ _ q6 q4).1,(hf _ _ _ q6 q4).2,rfl⟩
      have hk := Rel.imm (σ := σ) (K := K2) (w := w) B.sz rows b (off + s * B.sz) cap (fun i j => (w.cell? ⟨b, off + s * B.sz + i * B.sz + j, none⟩).getD Go.undef) hI (by rw [hlr]; omega)
        (fun r' hr => by
          obtain ⟨i,hi⟩:=List.getElem?_of_mem hr
          obtain ⟨r,q1,q2⟩:=get i r' hi
          rw [← (mapM_get q2).1]
          exact hBB.rows' hm' r (List.mem_of_getElem? q1))
        (fun r' hr c' hc' => by
          obtain ⟨i,hi⟩:=List.getElem?_of_mem hr
          obtain ⟨j,hj⟩:=List.getElem?_of_mem hc'
          exact (cell i r' j c' hi hj).2.1)
        (fun i r' j c' hi hj => (cell i r' j c' hi hj).2.2)
        (fun i r' j c' hi hj => (cell i r' j c' hi hj).1)
      rwa [hlr] at hk
theorem ptr_iptrD (inv : Inv σ K H w) {l i o : Nat} {x : Value} (h : Rel σ K w (.ptr l i o) x) {B : Blk} (hB : H.blk l = some B) {r r' : List V} (hr : B.rows[i]? = some r)
    {f:V → Option V} (hm0:r.mapM f = some r') {K2:Ctx} (hI:K2.I (K.ρ l).1) (hf:∀ c c' y,Rel σ K w c y → f c = some c' → Rel σ K2 w c' y ∧ c'.closed = true):Rel σ K2 w (.iptr r' o) x:=by
  obtain ⟨p1,p2⟩:=mapM_get hm0
  cases h with
  | ptr _ _ _ b off sz hl hρ hmt =>
    have hm':=tag_not hρ hmt
    have hBB:=inv.blk l B hB
    obtain ⟨cs,e,g1,g2,g3⟩:=hBB.at' hm'
    have hz:=hBB.sz
    rw [hρ] at g1 g2 g3 hz hI
    simp only at g1 g2 g3 hz hI
    subst hz
    have cell : ∀ (j : Nat) c', r'[j]? = some c' → Rel σ K2 w c' ((w.cell? ⟨b, off + i * B.sz + j, none⟩).getD Go.undef) ∧ c'.closed = true ∧
        w.cell? ⟨b,off + i * B.sz + j,none⟩ = some ((w.cell? ⟨b,off + i * B.sz + j,none⟩).getD Go.undef):=fun j c' hj => by
      have hlt:j < r.length:=by rw [p1]; exact (List.getElem?_eq_some_iff.1 hj).1
      obtain ⟨c2,q3,q4⟩:=p2 j _ (List.getElem?_eq_getElem hlt)
      rw [hj] at q3
      injection q3 with q3
      subst q3
      obtain ⟨_,y,q5,q6⟩:=g3 i r j _ hr (List.getElem?_eq_getElem hlt)
      rw [g1.cell,q5]
      exact ⟨(hf _ _ _ q6 q4).1,(hf _ _ _ q6 q4).2,rfl⟩
    exact .iptr r' o b (off + i * B.sz) (fun j => (w.cell? ⟨b, off + i * B.sz + j, none⟩).getD Go.undef) hI
      (fun c' hc' => by obtain ⟨j,hj⟩:=List.getElem?_of_mem hc'; exact (cell j c' hj).2.1)
      (fun j c' hj => (cell j c' hj).2.2) (fun j c' hj => (cell j c' hj).1)
theorem thaw_rest {ok : Bool} {u : V} {x : Value} (hr : Rel σ K w v x) {K2 : Ctx} (h2 : ok = true → ∀ b, K.I b → K2.I b) (h : (if v.flat || (ok && v.closed) then some v else none) = some u) : Rel σ K2 w u x ∧ u.closed = true := by
  split at h
  · rename_i hh
    injection h with h
    subst h
    cases hf:v.flat with
    | true => exact ⟨hr.flat hf,V.closed_of_flat hf⟩
    | false =>
      rw [hf] at hh
      simp only [Bool.false_or,Bool.and_eq_true] at hh
      exact ⟨hr.closed hh.2 (h2 hh.1),hh.2⟩
  · cases h
theorem thawD_rel (inv : Inv σ K H w) {ok : Bool} (K2 : Ctx) (h1 : ∀ l B, H.blk l = some B → K2.I (K.ρ l).1) (h2 : ok = true → ∀ b, K.I b → K2.I b) : ∀ (d : Nat) (v u : V) (x : Value), Rel σ K w v x → thawD d ok H v = some u → Rel σ K2 w u x ∧ u.closed = true
  | 0,v,u,x,hr,h => thaw_rest hr h2 h
  | d + 1, v, u, x, hr, h => by
    have ih:=thawD_rel inv K2 h1 h2 d
    unfold thawD at h
    split at h
    · rename_i l z s n c ex
      cases hB:H.blk l with
      | none => rw [hB] at h; simp at h
      | some B =>
        rw [hB] at h
        simp only [Option.bind_some] at h
        split at h
        case isFalse => cases h
        rename_i hle
        cases hm:mapRows (thawD d ok H) ((B.rows.drop s).take n) with
        | none => rw [hm] at h; simp at h
        | some rows =>
          rw [hm] at h
          simp only [Option.bind_some,Option.some.injEq] at h
          subst h
          exact ⟨ref_immD inv hr hB hle hm (h1 l B hB) (fun c c' y a b => ih c c' y a b),rfl⟩
    · rename_i l i o
      cases hB:H.blk l with
      | none => rw [hB] at h; simp at h
      | some B =>
        rw [hB] at h
        simp only [Option.bind_some] at h
        cases hrow:B.rows[i]? with
        | none => rw [hrow] at h; simp at h
        | some r =>
          rw [hrow] at h
          simp only [Option.bind_some] at h
          cases hm:r.mapM (thawD d ok H) with
          | none => rw [hm] at h; simp at h
          | some r' =>
            rw [hm] at h
            simp only [Option.bind_some,Option.some.injEq] at h
            subst h
            exact ⟨ptr_iptrD inv hr hB hrow hm (h1 l B hB) (fun c c' y a b => ih c c' y a b),rfl⟩
    · exact thaw_rest hr h2 h
theorem ptr_iptr (inv : Inv σ K H w) {l i o : Nat} {x : Value} (h : Rel σ K w (.ptr l i o) x) {B : Blk} (hB : H.blk l = some B) {r : List V} (hr : B.rows[i]? = some r)
    (hfl:r.all V.flat = true) {K2:Ctx} (hI:K2.I (K.ρ l).1):Rel σ K2 w (.iptr r o) x:=by
  cases h with
  | ptr _ _ _ b off sz hl hρ hmt =>
    have hm':=tag_not hρ hmt
    have hBB:=inv.blk l B hB
    obtain ⟨cs,e,g1,g2,g3⟩:=hBB.at' hm'
    have hz:=hBB.sz
    rw [hρ] at g1 g2 g3 hz hI
    simp only at g1 g2 g3 hz hI
    subst hz
    rw [List.all_eq_true] at hfl
    exact .iptr r o b (off + i * B.sz) (fun j => (w.cell? ⟨b, off + i * B.sz + j, none⟩).getD Go.undef) hI (fun c hc => V.closed_of_flat (hfl c hc))
      (fun j c hj => by obtain ⟨_,y,q1,_⟩:=g3 i r j c hr hj; rw [g1.cell,q1]; rfl)
      (fun j c hj => by
        obtain ⟨_,y,q1,q2⟩:=g3 i r j c hr hj
        rw [g1.cell,q1]
        exact q2.flat (hfl c (List.mem_of_getElem? hj)))
theorem thaw_rel (inv : Inv σ K H w) {ok : Bool} {u : V} {x : Value} (hr : Rel σ K w v x) (h : thaw ok H v = some u) (K2 : Ctx) (h1 : ∀ l B, H.blk l = some B → K2.I (K.ρ l).1)
    (h2:ok = true → ∀ b,K.I b → K2.I b):Rel σ K2 w u x ∧ u.closed = true:=by
  have rest : (if v.flat || (ok && v.closed) then some v else none) = some u → Rel σ K2 w u x ∧ u.closed = true := fun h => by
    split at h
    · rename_i hh
      injection h with h
      subst h
      cases hf:v.flat with
      | true => exact ⟨hr.flat hf,V.closed_of_flat hf⟩
      | false =>
        rw [hf] at hh
        simp only [Bool.false_or,Bool.and_eq_true] at hh
        exact ⟨hr.closed hh.2 (h2 hh.1),hh.2⟩
    · cases h
  unfold thaw at h
  split at h
  · rename_i l z s n c ex
    cases hB:H.blk l with
    | none => rw [hB] at h; simp at h
    | some B =>
      rw [hB] at h
      simp only [Option.bind_some] at h
      split at h
      · rename_i hh
        injection h with h
        subst h
        exact ⟨ref_imm inv hr hB hh.1 hh.2 (h1 l B hB),rfl⟩
      · exact thawD_rel inv K2 h1 h2 4 _ _ _ hr h
  · rename_i l i o
    cases hB:H.blk l with
    | none => rw [hB] at h; simp at h
    | some B =>
      rw [hB] at h
      simp only [Option.bind_some] at h
      cases hrow:B.rows[i]? with
      | none => rw [hrow] at h; simp at h
      | some r =>
        rw [hrow] at h
        simp only [Option.bind_some] at h
        split at h
        · rename_i hh
          injection h with h
          subst h
          exact ⟨ptr_iptr inv hr hB hrow hh (h1 l B hB),rfl⟩
        · exact thawD_rel inv K2 h1 h2 4 _ _ _ hr h
  · rename_i t l i o
    cases hB:H.blk l with
    | none => rw [hB] at h; simp at h
    | some B =>
      rw [hB] at h
      simp only [Option.bind_some] at h
      cases hrow:B.rows[i]? with
      | none => rw [hrow] at h; simp at h
      | some r =>
        rw [hrow] at h
        simp only [Option.bind_some] at h
        split at h
        · rename_i hh
          injection h with h
          subst h
          cases hr with
          | iface _ _ y hc hy => exact ⟨.iface t _ y rfl (ptr_iptr inv hy hB hrow hh (h1 l B hB)),rfl⟩
        · cases h
  · exact rest h
theorem thaw2_rel (inv : Inv σ K H w) {ok : Bool} {u : V} {x : Value} (hr : Rel σ K w v x) (h : thaw2 ok H v = some u) (K2 : Ctx) (h1 : ∀ l B, H.blk l = some B → K2.I (K.ρ l).1)
    (h2:ok = true → ∀ b,K.I b → K2.I b):Rel σ K2 w u x:=by
  unfold thaw2 at h
  split at h
  · rename_i l
    cases hm:l.mapM (thaw ok H) with
    | none => rw [hm] at h; simp at h
    | some l' =>
      rw [hm] at h
      simp only [Option.bind_some,Option.some.injEq] at h
      subst h
      obtain ⟨m1,m2⟩:=mapM_get hm
      cases hr with
      | agg _ cs hl hc hrl =>
        have get : ∀ (i : Nat) b, l'[i]? = some b → ∃ a, l[i]? = some a ∧ thaw ok H a = some b := fun i b hb => by
          have hlt:i < l.length:=by rw [m1]; exact (List.getElem?_eq_some_iff.1 hb).1
          obtain ⟨b',q1,q2⟩:=m2 i _ (List.getElem?_eq_getElem hlt)
          rw [hb] at q1
          injection q1 with q1
          subst q1
          exact ⟨_,List.getElem?_eq_getElem hlt,q2⟩
        refine .agg l' cs (by rw [← m1]; exact hl) (fun b hb => ?_) (fun i b y hb hy => ?_)
        · obtain ⟨i,hi⟩:=List.getElem?_of_mem hb
          obtain ⟨a,q1,q2⟩:=get i b hi
          have hlt:i < cs.size:=by rw [← hl]; exact (List.getElem?_eq_some_iff.1 q1).1
          exact V.cell_of_closed (thaw_rel inv (hrl i a cs[i] q1 (by simp [hlt])) q2 K2 h1 h2).2
        · obtain ⟨a,q1,q2⟩:=get i b hb
          exact (thaw_rel inv (hrl i a y q1 hy) q2 K2 h1 h2).1
  · exact (thaw_rel inv hr h K2 h1 h2).1
theorem thawV_rel (inv : Inv σ K H w) {ok : Bool} {u : V} {x : Value} (hr : Rel σ K w v x) (h : thawV ok H v = some u) (K2 : Ctx) (h1 : ∀ l B, H.blk l = some B → K2.I (K.ρ l).1)
    (h2:ok = true → ∀ b,K.I b → K2.I b):Rel σ K2 w u x:=by
  unfold thawV at h
  split at h
  · rename_i l
    exact thaw2_rel (v:=.agg l) inv hr (by simpa [thaw2] using h) K2 h1 h2
  · rename_i l
    cases hm:l.mapM (thaw2 ok H) with
    | none => rw [hm] at h; simp at h
    | some l' =>
      rw [hm] at h
      simp only [Option.bind_some,Option.some.injEq] at h
      subst h
      obtain ⟨m1,m2⟩:=mapM_get hm
      cases hr with
      | tuple _ cs hl hrl =>
        refine .tuple l' cs (by rw [← m1]; exact hl) (fun i b y hb hy => ?_)
        have hlt:i < l.length:=by rw [m1]; exact (List.getElem?_eq_some_iff.1 hb).1
        obtain ⟨b',q1,q2⟩:=m2 i _ (List.getElem?_eq_getElem hlt)
        rw [hb] at q1
        injection q1 with q1
        subst q1
        exact thaw2_rel inv (hrl i _ y (List.getElem?_eq_getElem hlt) hy) q2 K2 h1 h2
  · exact (thaw_rel inv hr h K2 h1 h2).1
theorem thaw_closed {v:V} (h:v.closed = true) (H:Heap):thaw true H v = some v:=by
 cases v with
 | iface t u => cases u <;> simp_all [thaw,V.closed,V.flat]
 | _ => simp_all [thaw,V.closed,V.flat]
theorem mapM_closed : ∀ {l : List V}, l.all V.closed = true → ∀ H, l.mapM (thaw true H) = some l
  | [],_,_ => rfl
  | v :: l, h, H => by
    simp only [List.all_cons,Bool.and_eq_true] at h
    rw [List.mapM_cons,thaw_closed h.1 H,mapM_closed h.2 H]
    rfl
theorem V.closed_of_closedV {v:V} (h:v.closedV = true) (hna:∀ l,v ≠ .agg l):v.closed = true:=by
 cases v <;> first | exact absurd rfl (hna _) | simpa only [V.closedV] using h
theorem thawV_closed {v : V} (h : v.closedV = true) (H : Heap) : thawV true H v = some v := by
  cases v with
  | agg l =>
    simp only [V.closedV] at h
    simp [thawV,mapM_closed h H]
  | tuple l => simp [V.closedV,V.closed,V.flat] at h
  | _ => exact thaw_closed (V.closed_of_closedV h (by intro l; simp)) H
theorem mapM_closedV : ∀ {l : List V}, l.all V.closedV = true → ∀ H, l.mapM (thawV true H) = some l
  | [],_,_ => rfl
  | v :: l, h, H => by
    simp only [List.all_cons,Bool.and_eq_true] at h
    rw [List.mapM_cons,thawV_closed h.1 H,mapM_closedV h.2 H]
    rfl
theorem Rel.closedV {K2 : Ctx} {x : Value} (h : Rel σ K w v x) (hv : v.closedV = true) (hI : ∀ b, K.I b → K2.I b) : Rel σ K2 w v x := by
  by_cases ha:∃ l,v = .agg l
  · obtain ⟨l, rfl⟩ := ha
    cases h with
    | agg l cs hl hc hr =>
      simp only [V.closedV] at hv
      rw [List.all_eq_true] at hv
      exact .agg l cs hl hc (fun i a b ha hb => (hr i a b ha hb).closed (hv a (List.mem_of_getElem? ha)) hI)
  · exact h.closed (V.closed_of_closedV hv (fun l e => ha ⟨l,e⟩)) hI
def ArgsRel (σ:Nat → Addr) (K:Ctx) (w:World) (vs:List V) (xs:Array Value):Prop:=vs.length = xs.size ∧ ∀ (i:Nat) a b,vs[i]? = some a → xs[i]? = some b → Rel σ K w a b
def Callable (P : Program) (f : FuncId) : Prop := ∃ fn, P.funcs[f]? = some fn ∧ fn.body.isSome = true ∧ fn.name ≠ "runtime.NumGoroutine"
def SoundF (C:Cfg) (σ:Nat → Addr) (f:FuncId) (cf:List V → M V):Prop :=
 ∀ K H w vs xs v H',Inv σ K H w → GlobOk C σ K w → ArgsRel σ K w vs xs → cf vs H = some (v,H') →
  Callable C.P f ∧ Calls C.P f xs w fun e w' => ∃ x,e = .returned x ∧ Leads C σ K H w v H' x w'
theorem GlobOk.sub {K2:Ctx} (h:GlobOk C σ K w) (hI:∀ b,K.I b → K2.I b):GlobOk C σ K2 w:=⟨fun g row hg => (h.g g row hg).closed rfl hI,fun k hk => ⟨hI _ (h.s k hk).1,(h.s k hk).2⟩,fun g v hg => ⟨hI _ (h.z g v hg).1,(h.z g v hg).2⟩,fun g cs hg => ⟨hI _ (h.t g cs hg).1,(h.t g cs hg).2⟩⟩
theorem ok_callP {f : FuncId} {cf : List V → M V} (hf : SoundF C σ f cf) : SoundF C σ f (callP false cf) := by
  intro K H w vs xs v H' inv gl ar h
  unfold callP at h
  cases hm:vs.mapM (thawV true H) with
  | none => rw [hm] at h; simp at h
  | some as =>
  rw [hm] at h
  simp only [Option.bind_some] at h
  cases hr:cf as Heap.empty with
  | none => rw [hr] at h; simp at h
  | some rh =>
  obtain ⟨r,Hc⟩:=rh
  rw [hr] at h
  simp only [Option.bind_some,Bool.false_eq_true,if_false] at h
  cases ht:thawV (vs.all V.closedV) Hc r with
  | none => rw [ht] at h; simp at h
  | some u =>
  rw [ht] at h
  simp only [Option.bind_some,Option.some.injEq,Prod.mk.injEq] at h
  obtain ⟨rfl,rfl⟩:=h
  have hc : ∃ I0 : Nat → Prop, (∀ b, K.I b → I0 b) ∧ (∀ b, I0 b → b < w.heap.size) ∧ (vs.all V.closedV = true → ∀ b, I0 b → K.I b) ∧ ArgsRel σ ⟨I0, fun _ => (0, 0, 0), 0, fun _ => False⟩ w as xs := by
    cases hcl:vs.all V.closedV with
    | true =>
      refine ⟨K.I,fun _ h => h,inv.imm,fun _ _ h => h,?_⟩
      rw [mapM_closedV hcl H] at hm
      injection hm with hm
      subst hm
      rw [List.all_eq_true] at hcl
      exact ⟨ar.1,fun i a b ha hb => (ar.2 i a b ha hb).closedV (hcl a (List.mem_of_getElem? ha)) (fun _ h => h)⟩
    | false =>
      refine ⟨fun b => b < w.heap.size,inv.imm,fun _ h => h,fun h => (by cases h),?_⟩
      obtain ⟨m1,m2⟩:=mapM_get hm
      refine ⟨m1.symm.trans ar.1,fun i a b ha hb => ?_⟩
      have hlt:i < vs.length:=by rw [m1]; exact (List.getElem?_eq_some_iff.1 ha).1
      obtain ⟨b',q1,q2⟩:=m2 i _ (List.getElem?_eq_getElem hlt)
      rw [ha] at q1
      injection q1 with q1
      subst q1
      refine thawV_rel inv (ar.2 i _ b (List.getElem?_eq_getElem hlt) hb) q2 _ (fun l B hB => ?_) (fun _ => inv.imm)
      exact (inv.blk l B hB).lt_size
  obtain ⟨I0,c1,c2,c3,c4⟩:=hc
  have inv0:Inv σ ⟨I0,fun _ => (0,0,0),0,fun _ => False⟩ Heap.empty w:=⟨rfl,fun _ h => h.elim,Nat.le_refl _,fun l B h => (by simp [Heap.empty] at h),fun l l' B B' h => (by simp [Heap.empty] at h),c2⟩
  refine ⟨(hf _ _ w as xs r Hc inv0 (gl.sub c1) c4 hr).1,(hf _ _ w as xs r Hc inv0 (gl.sub c1) c4 hr).2.mono fun e w' he => ?_⟩
  obtain ⟨x,rfl,Kc,r1,r2,r3⟩:=he
  have fr:∀ b,b < w.heap.size → w'.heap[b]? = w.heap[b]?:=fun b hb => r3.frame b hb (fun l B h => (by simp [Heap.empty] at h))
  have fresh : ∀ l B, Hc.blk l = some B → w.heap.size ≤ (Kc.ρ l).1 ∧ (Kc.ρ l).1 < w'.heap.size := fun l B hB => by
    refine ⟨?_,?_⟩
    · rcases Nat.lt_or_ge (Kc.ρ l).1 w.heap.size with g | g
      · obtain ⟨l0,B0,h0,_⟩:=r3.range l B hB g
        simp [Heap.empty] at h0
      · exact g
    · exact (r2.blk l B hB).lt_size
  let K':Ctx:=⟨fun b => K.I b ∨ (w.heap.size ≤ b ∧ b < w'.heap.size),K.ρ,K.nx,K.D⟩
  have evo : Evo K H w K' H w' := {
    I:=fun _ h => .inl h
    ρ:=fun _ _ => rfl
    D:=fun _ h => h
    nx:=Nat.le_refl _
    floor:=rfl
    low:=fun _ _ _ => rfl
    frame:=fun b hb _ => fr b hb
    shape:=fun b cs e f h => ⟨cs,f,(fr b (Array.getElem?_eq_some_iff.1 h).1).trans h,rfl⟩
    size:=r3.size
    os:=r3.os
    tape:=r3.tape
    output:=r3.output
    range:=fun l B h _ => ⟨l,B,h,rfl,.inl rfl⟩
    newI := fun b h hb => by
      rcases h with h | h
      · exact h
      · omega
    newD:=fun _ h _ => h }
  have mv:=inv.moves evo
  have inv' : Inv σ K' H w' := by
    refine ⟨inv.nx,inv.dom,inv.flo,fun l B hB => ?_,inv.inj,fun b hb => ?_⟩
    · have h0 := inv.blk l B hB
      refine h0.keep mv h0.lt rfl (fr _ h0.lt_size) (fun hI => ?_)
      rcases hI with hI | hI
      · exact h0.own hI
      · have:=h0.lt_size
        omega
    · rcases hb with hb | hb
      · exact Nat.lt_of_lt_of_le (inv.imm b hb) r3.size
      · exact hb.2
  refine ⟨x,rfl,K',?_,inv',evo⟩
  refine thawV_rel r2 r1 ht K' (fun l B hB => .inr (fresh l B hB)) (fun hok b hb => ?_)
  rcases Nat.lt_or_ge b w.heap.size with g | g
  · exact .inl (c3 hok b (r3.newI b hb g))
  · exact .inr ⟨g,r2.imm b hb⟩
theorem Inv.adopt {K0:Ctx} {H0:Heap} {w0:World} (inv:Inv σ K H w) (evo0:Evo K0 H0 w0 K H w) {blk off sz:Nat} {rows:List (List V)} {cs:Array Value} {e:TypeId}
  (hs:∀ r ∈ rows,r.length = sz) (hblk:Lies w blk cs e) (hroom:off + rows.length * sz ≤ cs.size)
  (hc:∀ (i:Nat) r (j:Nat) c,rows[i]? = some r → r[j]? = some c → c.isCell = true ∧ ∃ x,cs[off + i * sz + j]? = some x ∧ Rel σ K w c x)
  (hm:¬ (off = 1 ∧ sz = 0)) (hfresh:w0.heap.size ≤ blk) (hI:¬ K.I blk) (hne:∀ l B,H.blk l = some B → (K.ρ l).1 ≠ blk) (hnx0:K0.nx ≤ K.nx) (hfl:H0.floor ≤ K.nx) :
  ∃ K',Inv σ K' (H.add ⟨sz,rows⟩) w ∧ Evo K0 H0 w0 K' (H.add ⟨sz,rows⟩) w ∧ K'.nx = K.nx + 1 ∧ K'.ρ K.nx = (blk,off,sz) ∧ (∀ l,K.D l → K'.ρ l = K.ρ l) ∧ K'.I = K.I ∧ Moves K K' w w ∧ K'.D K.nx:=by
 let K':Ctx:=⟨K.I,fun l => if l = K.nx then (blk,off,sz) else K.ρ l,K.nx + 1,fun l => K.D l ∨ l = K.nx⟩
 have ρo:∀ l,l ≠ H.next → K'.ρ l = K.ρ l:=fun l e => by show (if l = K.nx then _ else _) = _; rw [if_neg (by rw [inv.nx]; exact e)]
 have ρn:K'.ρ H.next = (blk,off,sz):=by show (if H.next = K.nx then _ else _) = _; rw [if_pos inv.nx.symm]
 have old:∀ l B,(H.add ⟨sz,rows⟩).blk l = some B → l ≠ H.next → H.blk l = some B:=fun l B hB e => by
  have:(if l = H.next then _ else _) = some B:=hB; rwa [if_neg e] at this
 have new:∀ B,(H.add ⟨sz,rows⟩).blk H.next = some B → B = ⟨sz,rows⟩:=fun B hB => by
  have:(if H.next = H.next then _ else _) = some B:=hB; rw [if_pos rfl] at this; injection this with this; exact this.symm
 have mv:Moves K K' w w:=⟨fun _ h => h,fun l hl => ρo l (by have:=inv.dom l hl; rw [inv.nx] at this; omega),fun _ h => .inl h,fun _ _ => rfl,fun b cs e f h => ⟨cs,f,h,rfl⟩⟩
 refine ⟨K',⟨by show K.nx + 1 = H.next + 1; rw [inv.nx],fun l h => by show l < K.nx + 1; rcases h with h | h; (have:=inv.dom l h; omega); omega,Nat.le_succ_of_le inv.flo,?_,?_,inv.imm⟩,?_,rfl,by rw [inv.nx]; exact ρn,fun l hl => ρo l (by have:=inv.dom l hl; rw [inv.nx] at this; omega),rfl,mv,.inr rfl⟩
 ·intro l B hB
  by_cases e':l = H.next
  ·subst e'
   have:=new B hB
   subst this
   refine .mk0 (.inr inv.nx.symm) (by rw [ρn]) (by rw [ρn]; exact hI) hs ⟨cs,e,by rw [ρn]; exact hblk,by rw [ρn]; exact hroom,?_⟩ (by rw [ρn]; exact hm)
   intro i r j c hi hj
   obtain ⟨q1,y,q2,q3⟩:=hc i r j c hi hj
   exact ⟨q1,y,by rw [ρn]; exact q2,q3.mono mv⟩
  ·have hB':=old l B hB e'
   have h0:=inv.blk l B hB'
   exact h0.keep mv (.inl h0.lt) (ρo l e') rfl h0.own
 ·intro l l' B B' hB hB' he
  by_cases e1:l = H.next <;> by_cases e2:l' = H.next
  ·rw [e1,e2]
  ·subst e1
   rw [ρn,ρo l' e2] at he
   exact absurd he.symm (hne l' B' (old l' B' hB' e2))
  ·subst e2
   rw [ρn,ρo l e1] at he
   exact absurd he (hne l B (old l B hB e1))
  ·rw [ρo l e1,ρo l' e2] at he
   exact inv.inj _ _ _ _ (old l B hB e1) (old l' B' hB' e2) he
 ·have hnx:=inv.nx
  exact {
   I:=evo0.I
   ρ:=fun l hl => (ρo l (by have:=inv.dom l (evo0.D l hl); omega)).trans (evo0.ρ l hl)
   D:=fun l h => .inl (evo0.D l h)
   nx:=Nat.le_trans evo0.nx (Nat.le_succ _)
   floor:=evo0.floor
   low:=fun l h1 h2 => by
    show (if l = H.next then _ else H.blk l) = _
    rw [if_neg (by omega)]
    exact evo0.low l h1 h2
   frame:=evo0.frame
   shape:=evo0.shape
   size:=evo0.size
   os:=evo0.os
   tape:=evo0.tape
   output:=evo0.output
   range:=fun l B hB hlt => by
    by_cases e':l = H.next
    ·subst e'
     rw [ρn] at hlt
     simp only at hlt
     omega
    ·rw [ρo l e'] at hlt ⊢
     exact evo0.range l B (old l B hB e') hlt
   newI:=evo0.newI
   newD:=fun l h hlt => evo0.newD l (h.resolve_right (by omega)) hlt }
end
end Go.Fv
