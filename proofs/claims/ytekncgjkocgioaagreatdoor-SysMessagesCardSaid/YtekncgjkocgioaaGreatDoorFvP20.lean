/-
  What a row's readings give: the arguments as plain values. By an AI agent; no person has read it.
-/
import Derived.Test.YtekncgjkocgioaaGreatDoorFvP01
import Derived.Test.YtekncgjkocgioaaGreatDoorFvP13
import Derived.Test.YtekncgjkocgioaaGreatDoorFvP19
import Derived.ChangeSame
import Derived.ChangeVars
import Derived.RowKit
import Derived.SizedLaws
import Derived.ReadAgain
set_option linter.unusedVariables false
set_option linter.unusedSimpArgs false
set_option linter.unusedSectionVars false
/-! What a row's readings give: the arguments as plain values. -/
namespace Go.Fv
open Go
def fsOk (P:Program) (rec:TypeId → Bool):List Field → Nat → Nat → Bool
 | [],off,tot => off == tot
 | f :: fs,off,tot => f.offset == off && rec f.type && fsOk P rec fs (off + P.cellsOf f.type) tot
def inTy (P : Program) : Nat → TypeId → Bool
  | 0,_ => false
  | n + 1, t => match P.underlying t with
    | some .bool | some (.int _) | some .string => P.cellsOf t == 1
    | some (.slice e) => P.cellsOf t == 1 && inTy P n e && decide (0 < P.cellsOf e)
    | some (.struct fs) => fsOk P (inTy P n) fs.toList 0 (P.cellsOf t)
    | some (.array k e) => inTy P n e && P.cellsOf t == k * P.cellsOf e
    | _ => false
def Sh (P : Program) : Nat → TypeId → List V → Prop
  | 0,_,_ => False
  | n + 1, t, vs => match P.underlying t with
    | some .bool => ∃ b,vs = [.bool b]
    | some (.int k) => ∃ m,(Lit.int k m).wf = true ∧ vs = [.int k m]
    | some .string => ∃ s:ByteArray,s.size ≤ reachBytes ∧ vs = [.str s]
    | some (.slice e) => vs = [.nils] ∨ ∃ rows,vs = [.imm (P.cellsOf e) rows] ∧ (rows.length ≤ maxLen ∧ rows.length * P.bytesOf e ≤ reachBytes) ∧ ∀ r ∈ rows,Sh P n e r
    | some (.struct fs) => vs.length = P.cellsOf t ∧ ∀ f ∈ fs.toList,Sh P n f.type ((vs.drop f.offset).take (P.cellsOf f.type))
    | some (.array k e) => vs.length = P.cellsOf t ∧ ∀ i,i < k → Sh P n e ((vs.drop (i * P.cellsOf e)).take (P.cellsOf e))
    | _ => False
section
variable {σ:Nat → Addr} {P:Program} {W:World} {H:Type} {enc:TypeId × Value → H} {spare:Nat → Bool}
def K0 (W:World):Ctx:=⟨fun b => b < W.heap.size,fun _ => (0,0,0),0,fun _ => False⟩
def Cells (σ:Nat → Addr) (W:World) (vs:List V) (cs:List Value):Prop :=
 vs.length = cs.length ∧ (∀ v ∈ vs,v.closed = true) ∧ ∀ (i:Nat) a b,vs[i]? = some a → cs[i]? = some b → Rel σ (K0 W) W a b
theorem Cells.append {vs us:List V} {cs ds:List Value} (h1:Cells σ W vs cs) (h2:Cells σ W us ds):Cells σ W (vs ++ us) (cs ++ ds):=by
 refine ⟨by simp [h1.1,h2.1],fun v hv => ?_,fun i a b ha hb => ?_⟩
 ·rcases List.mem_append.1 hv with h | h
  ·exact h1.2.1 v h
  ·exact h2.2.1 v h
 ·rcases Nat.lt_or_ge i vs.length with g | g
  ·rw [List.getElem?_append_left g] at ha
   rw [List.getElem?_append_left (by rw [← h1.1]; exact g)] at hb
   exact h1.2.2 i a b ha hb
  ·rw [List.getElem?_append_right g] at ha
   rw [List.getElem?_append_right (by rw [← h1.1]; exact g),← h1.1] at hb
   exact h2.2.2 _ a b ha hb
theorem Cells.one {v:V} {c:Value} (hc:v.closed = true) (h:Rel σ (K0 W) W v c):Cells σ W [v] [c]:=by
 refine ⟨rfl,fun u hu => ?_,fun i a b ha hb => ?_⟩
 ·rw [List.mem_singleton] at hu; subst hu; exact hc
 ·cases i with
  | zero => simp at ha hb; subst ha; subst hb; exact h
  | succ i => simp at ha
def Reads (P:Program) (σ:Nat → Addr) (W:World) (n:Nat) (t:TypeId) (cs:List Value):Prop:=∃ vs,Sh P n t vs ∧ vs.length = P.cellsOf t ∧ Cells σ W vs cs
theorem reads_fields {n : Nat} (cs : List Value) : ∀ (fs : List Field) (off tot : Nat), fsOk P (inTy P n) fs off tot = true → tot ≤ cs.length → off ≤ tot →
    (∀ f ∈ fs,inTy P n f.type = true → Reads P σ W n f.type ((cs.drop f.offset).take (P.cellsOf f.type))) →
    ∃ vs,vs.length = tot - off ∧ Cells σ W vs ((cs.drop off).take (tot - off)) ∧ ∀ f ∈ fs,off ≤ f.offset ∧ Sh P n f.type ((vs.drop (f.offset - off)).take (P.cellsOf f.type))
  | [], off, tot, h, hle, hot, _ => by
    have:off = tot:=by simpa [fsOk] using h
    subst this
    exact ⟨[],by simp,by simp; exact ⟨rfl,fun v hv => by simp at hv,fun i a b ha => by simp at ha⟩,fun f hf => by simp at hf⟩
  | f :: fs, off, tot, h, hle, hot, hr => by
    simp only [fsOk,Bool.and_eq_true,beq_iff_eq] at h
    obtain ⟨⟨rfl,hin⟩,h⟩:=h
    have hmono : ∀ (fs : List Field) off, fsOk P (inTy P n) fs off tot = true → off ≤ tot := by
      intro fs
      induction fs with
      | nil => intro off h; have : off = tot := by simpa [fsOk] using h
               omega
      | cons g fs ih =>
        intro off h
        simp only [fsOk,Bool.and_eq_true,beq_iff_eq] at h
        have:=ih _ h.2
        omega
    have hlt:=hmono fs _ h
    obtain ⟨vs1,s1,s2,s3⟩:=hr f (List.mem_cons_self ..) hin
    obtain ⟨vs2,r1,r2,r3⟩:=reads_fields cs fs (f.offset + P.cellsOf f.type) tot h hle hlt fun g hg => hr g (List.mem_cons_of_mem _ hg)
    have hsplit : (cs.drop f.offset).take (tot - f.offset) = (cs.drop f.offset).take (P.cellsOf f.type) ++ (cs.drop (f.offset + P.cellsOf f.type)).take (tot - (f.offset + P.cellsOf f.type)) := by
      rw [← List.drop_drop,show tot - f.offset = P.cellsOf f.type + (tot - (f.offset + P.cellsOf f.type)) by omega,List.take_add]
    refine ⟨vs1 ++ vs2,by simp [s2,r1]; omega,by rw [hsplit]; exact s3.append r2,fun g hg => ?_⟩
    rcases List.mem_cons.1 hg with rfl | hg
    · refine ⟨Nat.le_refl _,?_⟩
      rw [Nat.sub_self,List.drop_zero,← s2,List.take_left]
      exact s1
    · obtain ⟨q1,q2⟩:=r3 g hg
      refine ⟨by omega,?_⟩
      rw [show g.offset - f.offset = vs1.length + (g.offset - (f.offset + P.cellsOf f.type)) by omega,List.drop_append,List.drop_of_length_le (by omega),List.nil_append]
      rw [show vs1.length + (g.offset - (f.offset + P.cellsOf f.type)) - vs1.length = g.offset - (f.offset + P.cellsOf f.type) by omega]
      exact q2
theorem list_choose {β : Type} (p : Nat → β → Prop) : ∀ n, (∀ i, i < n → ∃ b, p i b) → ∃ l : List β, l.length = n ∧ ∀ (i : Nat) b, l[i]? = some b → p i b
  | 0,_ => ⟨[],rfl,fun i b h => by simp at h⟩
  | n + 1, h => by
    obtain ⟨l,h1,h2⟩:=list_choose p n fun i hi => h i (by omega)
    obtain ⟨b,hb⟩:=h n (by omega)
    refine ⟨l ++ [b],by simp [h1],fun i c hc => ?_⟩
    rcases Nat.lt_or_ge i l.length with g | g
    · rw [List.getElem?_append_left g] at hc
      exact h2 i c hc
    · rw [List.getElem?_append_right g] at hc
      have : i - l.length = 0 := by
        have:=(List.getElem?_eq_some_iff.1 hc).1
        simp at this; omega
      rw [this] at hc
      simp at hc
      subst hc
      have:i = n:=by omega
      subst this; exact hb
theorem cells_read {a:Addr} {m:Nat} {l:List Value} (h:W.cells? 0 a m = some l):l.length = m ∧ ∀ (j:Nat),j < m → l[j]? = W.cell? (a.add j):=by
 unfold World.cells? at h
 rw [if_pos (Nat.zero_le _)] at h
 obtain ⟨h1,h2⟩:=mapM_get h
 rw [List.length_range] at h1
 refine ⟨h1.symm,fun j hj => ?_⟩
 obtain ⟨b,h3,h4⟩:=h2 j j (by rw [List.getElem?_range hj])
 rw [h3,h4]
theorem reads_array {n : Nat} {e : TypeId} (cs : List Value) : ∀ k, k * P.cellsOf e ≤ cs.length → (∀ i, i < k → Reads P σ W n e ((cs.drop (i * P.cellsOf e)).take (P.cellsOf e))) →
    ∃ vs,vs.length = k * P.cellsOf e ∧ Cells σ W vs (cs.take (k * P.cellsOf e)) ∧ ∀ i,i < k → Sh P n e ((vs.drop (i * P.cellsOf e)).take (P.cellsOf e))
  | 0,_,_ => ⟨[],by simp,by simp; exact ⟨rfl,fun v hv => by simp at hv,fun i a b ha => by simp at ha⟩,fun i hi => by omega⟩
  | k + 1, hle, hr => by
    have hm:(k + 1) * P.cellsOf e = k * P.cellsOf e + P.cellsOf e:=by rw [Nat.add_mul,Nat.one_mul]
    obtain ⟨vs,s1,s2,s3⟩:=reads_array cs k (by omega) fun i hi => hr i (by omega)
    obtain ⟨vs2,r1,r2,r3⟩:=hr k (by omega)
    refine ⟨vs ++ vs2,by simp [s1,r2]; omega,by rw [hm,List.take_add]; exact s2.append r3,fun i hi => ?_⟩
    rcases Nat.lt_or_ge i k with g | g
    · have:(i + 1) * P.cellsOf e ≤ k * P.cellsOf e:=Nat.mul_le_mul_right _ g
      rw [Nat.add_mul,Nat.one_mul] at this
      rw [List.drop_append_of_le_length (by omega),List.take_append_of_le_length (by rw [List.length_drop]; omega)]
      exact s3 i g
    · have:i = k:=by omega
      subst this
      rw [← s1,List.drop_left,← r2,List.take_length]
      exact r1
theorem weights_mem_all {e : TypeId} : ∀ {ds : List (DataW H)} {d : DataW H}, d ∈ ds → ∀ n ∈ d.weights P e, n ∈ DataW.weightsAll P e ds
  | d0 :: ds, d, hd, n, hn => by
    rw [DataW.weightsAll,List.mem_append]
    rcases List.mem_cons.1 hd with rfl | h
    · exact .inl hn
    · exact .inr (weights_mem_all h n hn)
theorem mapM_at {α β:Type} {f:α → Option β} {xs:List α} {l:List β} (h:xs.mapM f = some l) {i:Nat} {a:α} (ha:xs[i]? = some a):∃ b,l[i]? = some b ∧ f a = some b:=(mapM_get h).2 i a ha
theorem mapM_range' {β:Type} {f:Nat → Option β} {n:Nat} {l:List β} (h:(List.range n).mapM f = some l) {i:Nat} (hi:i < n):∃ b,b ∈ l ∧ f i = some b:=by
 obtain ⟨b,h1,h2⟩:=mapM_at h (List.getElem?_range hi)
 exact ⟨b,List.mem_of_getElem? h1,h2⟩
theorem reads_trod : ∀ (n : Nat) (t : TypeId) (fuel : Nat) (cs : List Value) (d : DataW H) (ps : List MemPlace), inTy P n t = true → DataW.trod enc P W 0 spare true fuel t cs = some (d, ps) → (∀ x ∈ d.weights P t, x ≤ reachBytes) → Reads P σ W n t cs := by
  intro n
  induction n with
  | zero => intro t fuel cs d ps h; cases h
  | succ n ih =>
    intro t fuel cs d ps hin h hw
    cases fuel with
    | zero => simp [DataW.trod] at h
    | succ fuel =>
    unfold DataW.trod at h
    unfold inTy at hin
    cases hu:P.underlying t with
    | none => rw [hu] at hin; cases hin
    | some u =>
    rw [hu] at h hin
    cases u <;> simp only at hin <;> try (cases hin; done)
    case bool =>
      have h1:P.cellsOf t = 1:=by simpa using hin
      rcases cs with _ | ⟨c,_ | ⟨c',cs⟩⟩
      · simp at h
      · cases c <;> simp at h
        rename_i b
        exact ⟨[.bool b],by simp [Sh,hu],h1.symm,Cells.one rfl (.bool b)⟩
      · simp at h
    case int k =>
      have h1:P.cellsOf t = 1:=by simpa using hin
      rcases cs with _ | ⟨c,_ | ⟨c',cs⟩⟩
      · simp at h
      · cases c <;> simp at h
        rename_i k' m
        obtain ⟨⟨rfl,hw⟩,_⟩:=h
        exact ⟨[.int k' m],by simp [Sh,hu,hw],h1.symm,Cells.one rfl (.int k' m)⟩
      · simp at h
    case string =>
      have h1:P.cellsOf t = 1:=by simpa using hin
      rcases cs with _ | ⟨c,_ | ⟨c',cs⟩⟩
      · simp at h
      · cases c <;> simp at h
        rename_i s
        obtain ⟨_,rfl,_⟩:=h
        have hs:=hw s.data.toList.length (by simp [DataW.weights])
        exact ⟨[.str s],by simp [Sh,hu]; simpa using hs,h1.symm,Cells.one rfl (.str s)⟩
      · simp at h
    case slice e =>
      simp only [Bool.and_eq_true,beq_iff_eq,decide_eq_true_eq] at hin
      obtain ⟨⟨h1,h2⟩,h3⟩:=hin
      rcases cs with _ | ⟨c,_ | ⟨c',cs⟩⟩
      · simp at h
      · cases c <;> try (simp at h; done)
        rename_i ptr len cap
        cases ptr with
        | none =>
          by_cases hz:len = 0 ∧ cap = 0
          · obtain ⟨rfl,rfl⟩:=hz
            exact ⟨[.nils],by simp [Sh,hu],h1.symm,Cells.one rfl .nils⟩
          · exfalso
            cases len <;> cases cap <;> simp_all
        | some a =>
          simp only at h
          split at h
          case isFalse => cases h
          rename_i hc
          cases hm:(List.range len).mapM (fun i => (W.cells? 0 (a.add (i * P.cellsOf e)) (P.cellsOf e)).bind (DataW.trod enc P W 0 spare true fuel e)) with
          | none => rw [hm] at h; simp at h
          | some elems =>
            have hd : ∃ sp, d = .slice (elems.map (·.1)) sp := by
              rw [hm] at h
              simp only [Option.bind_some] at h
              obtain ⟨rest,_,h⟩:=Option.map_eq_some_iff.1 h
              exact ⟨_,(congrArg Prod.fst h).symm⟩
            obtain ⟨sp,rfl⟩:=hd
            have hel:elems.length = len:=by have:=(mapM_get hm).1; simpa using this.symm
            have hby : len * P.bytesOf e ≤ reachBytes := by
              have:=hw ((elems.map (·.1)).length + sp.length |> (· * P.bytesOf e)) (by simp [DataW.weights,hu])
              simp only [List.length_map,hel] at this
              exact Nat.le_trans (Nat.mul_le_mul_right _ (Nat.le_add_right _ _)) this
            have each : ∀ i, i < len → ∃ row cs', W.cells? 0 (a.add (i * P.cellsOf e)) (P.cellsOf e) = some cs' ∧ Sh P n e row ∧ row.length = P.cellsOf e ∧ Cells σ W row cs' := fun i hi => by
              obtain ⟨b,hbm,hb⟩:=mapM_range' hm hi
              cases hcs:W.cells? 0 (a.add (i * P.cellsOf e)) (P.cellsOf e) with
              | none => rw [hcs] at hb; simp at hb
              | some cs' =>
                rw [hcs] at hb
                obtain ⟨vs, q1, q2, q3⟩ := ih e fuel cs' b.1 b.2 h2 hb fun x hx => hw x (by
                  simp only [DataW.weights,hu]
                  exact List.mem_cons_of_mem _ (List.mem_append_left _ (weights_mem_all (List.mem_map_of_mem hbm) x hx)))
                exact ⟨vs,cs',rfl,q1,q2,q3⟩
            obtain ⟨rows,r1,r2⟩:=list_choose (fun i row => ∃ cs',W.cells? 0 (a.add (i * P.cellsOf e)) (P.cellsOf e) = some cs' ∧ Sh P n e row ∧ row.length = P.cellsOf e ∧ Cells σ W row cs') len each
            refine ⟨[.imm (P.cellsOf e) rows],?_,h1.symm,Cells.one rfl ?_⟩
            · simp only [Sh,hu]
              refine .inr ⟨rows,rfl,⟨by rw [r1]; omega,by rw [r1]; exact hby⟩,fun r hr => ?_⟩
              obtain ⟨i,hi,rfl⟩:=List.getElem_of_mem hr
              obtain ⟨_,_,q,_⟩:=r2 i _ (List.getElem?_eq_getElem hi)
              exact q
            · cases len with
              | zero =>
                have:rows = []:=List.eq_nil_of_length_eq_zero r1
                subst this
                exact .imm0 _ a cap
              | succ len =>
                obtain ⟨b,off,spot⟩:=a
                have at_ : ∀ (i : Nat) r (j : Nat) c, rows[i]? = some r → r[j]? = some c → ∃ x, W.cell? ((Addr.add ⟨b, off, spot⟩ (i * P.cellsOf e)).add j) = some x ∧ Rel σ (K0 W) W c x ∧ c.closed = true := fun i r j c hi hj => by
                  obtain ⟨cs',p1,_,p3,p4⟩:=r2 i r hi
                  obtain ⟨g1,g2⟩:=cells_read p1
                  have hjl:j < P.cellsOf e:=by rw [← p3]; exact (List.getElem?_eq_some_iff.1 hj).1
                  have hx:cs'[j]? = some (cs'[j]'(by rw [g1]; exact hjl)):=List.getElem?_eq_getElem _
                  refine ⟨_,(g2 j hjl).symm.trans hx,p4.2.2 j c _ hj hx,p4.2.1 c (List.mem_of_getElem? hj)⟩
                have hspot : spot = none := by
                  have hr0:rows[0]? = some (rows[0]'(by omega)):=List.getElem?_eq_getElem _
                  obtain ⟨cs',p1,_,p3,p4⟩:=r2 0 _ hr0
                  obtain ⟨g1,g2⟩:=cells_read p1
                  have:=g2 0 h3
                  rw [List.getElem?_eq_getElem (by omega)] at this
                  have h5 : W.cell? ⟨b, off, spot⟩ = some cs'[0] := by
                    rw [this]; simp [Addr.add]
                  cases spot with
                  | none => rfl
                  | some s =>
                    unfold World.cell? at h5
                    simp only at h5
                    split at h5 <;> simp at h5
                subst hspot
                have hadd : ∀ i j, ((Addr.add ⟨b, off, none⟩ (i * P.cellsOf e)).add j) = ⟨b, off + i * P.cellsOf e + j, none⟩ := fun i j => by
                  unfold Addr.add
                  split <;> split <;> simp_all
                have key : ∀ (i : Nat) r (j : Nat) c, rows[i]? = some r → r[j]? = some c → W.cell? ⟨b, off + i * P.cellsOf e + j, none⟩ = some ((W.cell? ⟨b, off + i * P.cellsOf e + j, none⟩).getD Go.undef) ∧ Rel σ (K0 W) W c ((W.cell? ⟨b, off + i * P.cellsOf e + j, none⟩).getD Go.undef) ∧ c.closed = true := fun i r j c hi hj => by
                  obtain ⟨x,q1,q2,q3⟩:=at_ i r j c hi hj
                  rw [hadd] at q1
                  rw [q1]
                  exact ⟨rfl,q2,q3⟩
                have hb : b < W.heap.size := by
                  have hr0:rows[0]? = some (rows[0]'(by omega)):=List.getElem?_eq_getElem _
                  obtain ⟨cs',p1,_,p3,p4⟩:=r2 0 _ hr0
                  have hc0:(rows[0]'(by omega))[0]? = some ((rows[0]'(by omega))[0]'(by omega)):=List.getElem?_eq_getElem _
                  have:=(key 0 _ 0 _ hr0 hc0).1
                  unfold World.cell? at this
                  simp only at this
                  rcases Nat.lt_or_ge b W.heap.size with g | g
                  · exact g
                  · rw [Array.getElem?_eq_none g] at this
                    simp at this
                rw [← r1]
                exact .imm _ rows b off cap (fun i j => (W.cell? ⟨b, off + i * P.cellsOf e + j, none⟩).getD Go.undef) hb (by omega)
                  (fun r hr => by
                    obtain ⟨i,hi,rfl⟩:=List.getElem_of_mem hr
                    obtain ⟨_,_,_,q,_⟩:=r2 i _ (List.getElem?_eq_getElem hi)
                    exact q)
                  (fun r hr c hc => by
                    obtain ⟨i,hi,rfl⟩:=List.getElem_of_mem hr
                    obtain ⟨j,hj,rfl⟩:=List.getElem_of_mem hc
                    exact (key i _ j _ (List.getElem?_eq_getElem hi) (List.getElem?_eq_getElem hj)).2.2)
                  (fun i r j c hi hj => (key i r j c hi hj).1) (fun i r j c hi hj => (key i r j c hi hj).2.1)
      · cases c <;> simp at h
    case struct fs =>
      have h' : (if cs.length = P.cellsOf t then (fs.toList.mapM fun f => DataW.trod enc P W 0 spare true fuel f.type ((cs.drop f.offset).take (P.cellsOf f.type))).map fun xs => (DataW.agg (xs.map (·.1)), xs.flatMap (·.2)) else none) = some (d, ps) := by
        rcases cs with _ | ⟨c,_ | ⟨c',cs⟩⟩ <;> first | exact h | (cases c <;> exact h)
      split at h'
      case isFalse => cases h'
      rename_i hlen
      cases hm:fs.toList.mapM fun f => DataW.trod enc P W 0 spare true fuel f.type ((cs.drop f.offset).take (P.cellsOf f.type)) with
      | none => rw [hm] at h'; simp at h'
      | some xs =>
        obtain ⟨vs, q1, q2, q3⟩ := reads_fields (P := P) (σ := σ) (W := W) (n := n) cs fs.toList 0 (P.cellsOf t) hin (by omega) (Nat.zero_le _) fun f hf hin' => by
          obtain ⟨i,hi,rfl⟩:=List.getElem_of_mem hf
          obtain ⟨b,hb1,hb⟩:=mapM_at hm (List.getElem?_eq_getElem hi)
          refine ih _ fuel _ b.1 b.2 hin' hb fun x hx => hw x ?_
          have hd:d = .agg (xs.map (·.1)):=by rw [hm] at h'; simp at h'; exact h'.1.symm
          subst hd
          simp only [DataW.weights,hu]
          exact DataW.weights_mem_each (j:=i) (by rw [List.getElem?_map,List.getElem?_eq_getElem hi]; rfl) (by rw [List.getElem?_map,hb1]; rfl) x hx
        refine ⟨vs,?_,by simpa using q1,?_⟩
        · simp only [Sh,hu]
          exact ⟨by simpa using q1,fun f hf => by simpa using (q3 f hf).2⟩
        · simpa [← hlen] using q2
    case array k e =>
      simp only [Bool.and_eq_true,beq_iff_eq] at hin
      have h' : (if cs.length = P.cellsOf t then ((List.range k).mapM fun i => DataW.trod enc P W 0 spare true fuel e ((cs.drop (i * P.cellsOf e)).take (P.cellsOf e))).map fun xs => (DataW.agg (xs.map (·.1)), xs.flatMap (·.2)) else none) = some (d, ps) := by
        rcases cs with _ | ⟨c,_ | ⟨c',cs⟩⟩ <;> first | exact h | (cases c <;> exact h)
      split at h'
      case isFalse => cases h'
      rename_i hlen
      cases hm:(List.range k).mapM fun i => DataW.trod enc P W 0 spare true fuel e ((cs.drop (i * P.cellsOf e)).take (P.cellsOf e)) with
      | none => rw [hm] at h'; simp at h'
      | some xs =>
        obtain ⟨vs, q1, q2, q3⟩ := reads_array (P := P) (σ := σ) (W := W) (n := n) (e := e) cs k (by omega) fun i hi => by
          obtain ⟨b,hbm,hb⟩:=mapM_range' hm hi
          refine ih e fuel _ b.1 b.2 hin.1 hb fun x hx => hw x ?_
          have hd:d = .agg (xs.map (·.1)):=by rw [hm] at h'; simp at h'; exact h'.1.symm
          subst hd
          simp only [DataW.weights,hu]
          exact weights_mem_all (List.mem_map_of_mem hbm) x hx
        refine ⟨vs,?_,by omega,?_⟩
        · simp only [Sh,hu]
          exact ⟨by omega,q3⟩
        · rw [← hin.2,← hlen,List.take_length] at q2
          exact q2
def argV (P:Program) (t:TypeId) (vs:List V):V :=
 match P.underlying t with
 | some (.struct _) | some (.array _ _) => .agg vs
 | _ => vs.getD 0 .undef
theorem agg_rel {vs:List V} {cs:Array Value} (h:Cells σ W vs cs.toList):Rel σ (K0 W) W (.agg vs) (.agg cs) :=
 .agg vs cs (by simpa using h.1) (fun a ha => V.cell_of_closed (h.2.1 a ha)) (fun i a b ha hb => h.2.2 i a b ha (by simpa using hb))
theorem arg_of {n:Nat} {t:TypeId} {v:Value} {d:DataW H} {ps:List MemPlace} {base:Nat} (hin:inTy P n t = true) (hok:Value.okWide P W .any base t v) (h:DataW.Trod enc P W 0 spare true t v d ps) (hw:∀ x ∈ d.weights P t,x ≤ reachBytes) :
  ∃ vs,Sh P n t vs ∧ Rel σ (K0 W) W (argV P t vs) v:=by
 obtain ⟨fuel,h⟩:=h
 obtain ⟨vs,h1,h2,h3⟩:=reads_trod (σ:=σ) n t fuel _ d ps hin h hw
 refine ⟨vs,h1,?_⟩
 cases n with
 | zero => cases hin
 | succ n =>
 unfold inTy at hin
 unfold Value.okWide at hok
 unfold argV
 have one:∀ x,v.cells = #[v] → vs = [x] → Rel σ (K0 W) W ([x].getD 0 .undef) v:=fun x hc he => by
  subst he
  exact h3.2.2 0 x v rfl (by rw [hc]; rfl)
 cases hu:P.underlying t with
 | none => rw [hu] at hin; cases hin
 | some u =>
 rw [hu] at hin hok
 simp only [Sh,hu] at h1
 cases u <;> simp only at hin <;> try (cases hin; done)
 case bool =>
  obtain ⟨b,rfl⟩:=h1
  cases v <;> simp [Cell.okWide,Cell.ok,hu] at hok
  exact one _ rfl rfl
 case int k =>
  obtain ⟨m,_,rfl⟩:=h1
  cases v <;> simp [Cell.okWide,Cell.ok,hu] at hok
  exact one _ rfl rfl
 case string =>
  obtain ⟨s,_,rfl⟩:=h1
  cases v <;> simp [Cell.okWide,Cell.ok,hu] at hok
  exact one _ rfl rfl
 case slice e =>
  have hv:v.cells = #[v]:=by cases v <;> first | rfl | simp [Cell.okWide,Cell.ok,hu] at hok
  rcases h1 with rfl | ⟨rows,rfl,_⟩
  ·exact one _ hv rfl
  ·exact one _ hv rfl
 case struct fs =>
  obtain ⟨cs,rfl,_,_⟩:=hok
  exact agg_rel h3
 case array k e =>
  obtain ⟨cs,rfl,_,_⟩:=hok
  exact agg_rel h3
structure Kept (W W':World):Prop where
 old:∀ (b:Nat),b < W.heap.size → W'.heap[b]? = W.heap[b]?
 size:W.heap.size ≤ W'.heap.size
 os:W'.os = W.os
 output:W'.output = W.output
theorem call_of {C:Cfg} (good:Good C σ) (gl:GlobOk C σ (K0 W) W) {vs:List V} {args:Array Value} (ar:ArgsRel σ (K0 W) W vs args) {n:Nat} {f:FuncId} {b:Bool} {H':Heap}
  (h:sem C n f vs Heap.empty = some (.bool b,H')):Calls C.P f args W fun e W' => e = .returned (.bool b) ∧ Kept W W':=by
 have inv:Inv σ (K0 W) Heap.empty W:=⟨rfl,fun _ h => h.elim,Nat.le_refl _,fun l B h => (by simp [Heap.empty] at h),fun l l' B B' h => (by simp [Heap.empty] at h),fun _ h => h⟩
 refine (sound good n f (K0 W) Heap.empty W vs args _ H' inv gl ar h).2.mono fun e W' he => ?_
 obtain ⟨x,rfl,K',r1,_,r3⟩:=he
 refine ⟨?_,fun b hb => r3.frame b hb fun l B hl => by simp [Heap.empty] at hl,r3.size,r3.os,r3.output⟩
 cases r1
 rfl
end
end Go.Fv
namespace Go.Fv
open Go Go.ChangeShapes
section
variable {P:Program} {W W':World} {H:Type} {enc:TypeId × Value → H}
theorem Kept.keptBut (k : Kept W W') (may : MemPlace → Prop) : W.keptBut W' may := by
  refine ⟨k.os,k.output,fun i hi => ?_⟩
  rw [k.old i hi]
  cases h:W.heap[i]? with
  | none => simp
  | some o =>
    cases o with
    | cells c t fr => exact ⟨rfl,rfl,rfl,fun j _ => rfl⟩
    | map es clock => exact .inr ⟨rfl,rfl⟩
    | _ => rfl
theorem Kept.cell (k:Kept W W') {b off:Nat} (hb:b < W.heap.size):W'.cell? ⟨b,off,none⟩ = W.cell? ⟨b,off,none⟩:=by
 simp only [World.cell?,k.old b hb]
theorem Kept.frozen (k:Kept W W') {b off:Nat} (hb:b < W.heap.size):W'.frozen? ⟨b,off,none⟩ = W.frozen? ⟨b,off,none⟩:=by
 simp only [World.frozen?,k.old b hb]
theorem trodAll_kept (k : Kept W W') {spare : Nat → Bool} {held : Bool} : ∀ {ts : List TypeId} {vs : List Value} {ds : List (DataW H)} {ps : List MemPlace}, DataW.TrodAll enc P W 0 spare held ts vs ds ps → DataW.TrodAll enc P W' 0 spare held ts vs ds ps
  | [],[],[],_,h => h
  | _ :: _, _ :: _, _ :: _, _, ⟨p, q, ⟨n, h1⟩, h2, e⟩ => by
    refine ⟨p,q,⟨n,DataW.trod_carry n _ _ _ h1 fun x hx => ?_⟩,trodAll_kept k h2,e⟩
    have hb:=DataW.trod_lt n _ _ _ h1 x hx
    cases x with
    | cell b off => exact k.cell hb
    | map b => exact k.old b hb
theorem post_true {f : Func} {s : ChangeSpec} {apart fresh handsOn again : Bool} {args : Array Value} {ds gs : List (DataW H)} {before : List MemPlace} {tb : TypeId}
    (kids:Kids P (· < P.types.size)) (hz:∀ t e,t < P.types.size → P.underlying t = some (.slice e) → 0 < P.cellsOf e) (hT:∀ t ∈ f.params.toList,t < P.types.size)
    (hv:s.vars = []) (hfn:s.fn H ds = { results:=[.lit (.bool true)],args:=ds }) (hrt:f.resultTypes = #[tb]) (htb:P.underlying tb = some .bool)
    (hW:DataW.Whole enc P f.params.toList s.vars apart W args.toList ds gs before) (k:Kept W W'):s.post enc P f apart fresh handsOn again W args (.bool true) W':=by
  have hlt:=hW.lt
  have hW0:=hW
  obtain ⟨p,q,hA,hV,he,hf,hn⟩:=hW
  rw [hv] at hV
  obtain ⟨rfl, rfl⟩ : gs = [] ∧ q = [] := by
    cases gs with
    | nil => exact ⟨rfl,hV⟩
    | cons g r => exact absurd hV (by intro h; cases h)
  rw [List.append_nil] at he
  subst he
  have e1:s.fn H (ds ++ []) = { results:=[.lit (.bool true)],args:=ds }:=by rw [List.append_nil]; exact hfn
  have hargs : ∀ sp : Nat → Bool, (∀ x ∈ before, sp x.block = true) → DataW.TrodAll enc P W' 0 sp true f.params.toList args.toList ds before := fun sp hs =>
    (trodAll_kept k hA).respare kids hz hT hs
  have hres : ∀ (b : Nat) (sp : Nat → Bool) (hd : Bool), DataW.TrodAll enc P W' b sp hd f.resultTypes.toList ((Value.bool true).resultList f.resultTypes.size) [.lit (.bool true)] [] := fun b sp hd => by
    rw [hrt]
    exact trodAll_mk1 ⟨1,by simp [DataW.trod,Value.cells,htb]⟩
  have hvars:∀ sp:Nat → Bool,DataW.TrodVars enc P W' sp s.vars [] []:=fun sp => by rw [hv]; exact rfl
  have hold:∀ x ∈ before,(fun b => decide (b < W.heap.size)) x.block = true:=fun x hx => by simpa using hlt x hx
  refine ⟨ds,[],before,[],before,[],hW0,by rw [e1]; exact hres _ _ _,by rw [e1]; exact hargs _ hold,by rw [e1]; exact hvars _,k.keptBut _,fun _ => ?_⟩
  refine ⟨fun j t r h1 h2 => ?_,_,_,([] ++ before) ++ [],⟨[] ++ before,[],trodAll_append (hargs _ (fun _ _ => rfl)) (hres _ _ _),hvars _,rfl,fun b off hx => ?_,fun ha => ?_⟩,fun x hx _ => ?_⟩
  · rw [hrt] at h1 h2
    cases j with
    | zero =>
      simp at h1 h2
      subst h1
      have : r = .bool true := by
        have h3:((Value.bool true).resultList 1)[0]? = some r:=h2
        simp [Value.resultList] at h3
        exact h3.symm
      subst this
      simp [Value.okWide,htb,Cell.okWide,Cell.ok]
    | succ j => simp at h1
  · have hx':MemPlace.cell b off ∈ before:=by simpa using hx
    have hb:b < W.heap.size:=hlt _ hx'
    exact (k.frozen hb).trans (hf b off hx')
  · have:=hn ha
    simpa using this
  · simpa using hx
def Shs (P:Program) (n:Nat):List TypeId → List V → Prop
 | [],[] => True
 | t :: ts,v :: vs => (∃ l,Sh P n t l ∧ v = argV P t l) ∧ Shs P n ts vs
 | _,_ => False
theorem args_of {σ : Nat → Addr} {n base : Nat} {spare : Nat → Bool} : ∀ (ts : List TypeId) (vs : List Value) (ds : List (DataW H)) (ps : List MemPlace), DataW.TrodAll enc P W 0 spare true ts vs ds ps → (∀ t ∈ ts, inTy P n t = true) → (∀ x ∈ DataW.weightsEach P ts ds, x ≤ reachBytes) →
    (∀ (j:Nat) t v,ts[j]? = some t → vs[j]? = some v → Value.okWide P W .any base t v) →
    ∃ xs,Shs P n ts xs ∧ xs.length = vs.length ∧ ∀ (i:Nat) a b,xs[i]? = some a → vs[i]? = some b → Rel σ (K0 W) W a b
  | [],[],[],_,_,_,_,_ => ⟨[],trivial,rfl,fun i a b h => by simp at h⟩
  | t :: ts, v :: vs, d :: ds, _, ⟨p, q, h1, h2, _⟩, hin, hw, hok => by
    obtain ⟨l,s1,s2⟩:=arg_of (σ:=σ) (hin t (List.mem_cons_self ..)) (hok 0 t v rfl rfl) h1 fun x hx => hw x (by rw [DataW.weightsEach]; exact List.mem_append_left _ hx)
    obtain ⟨xs,q1,q2,q3⟩:=args_of (σ:=σ) ts vs ds q h2 (fun t ht => hin t (List.mem_cons_of_mem _ ht)) (fun x hx => hw x (by rw [DataW.weightsEach]; exact List.mem_append_right _ hx)) fun j t v ht hv => hok (j + 1) t v (by simpa using ht) (by simpa using hv)
    refine ⟨argV P t l :: xs,⟨⟨l,s1,rfl⟩,q1⟩,by simp [q2],fun i a b ha hb => ?_⟩
    cases i with
    | zero => simp at ha hb; subst ha; subst hb; exact s2
    | succ i => simp at ha hb; exact q3 i a b ha hb
theorem weightsEach_left : ∀ {ts : List TypeId} {ds : List (DataW H)} (us : List TypeId) (es : List (DataW H)) {x : Nat}, x ∈ DataW.weightsEach P ts ds → x ∈ DataW.weightsEach P (ts ++ us) (ds ++ es)
  | [],[],us,es,x,h => by simp [DataW.weightsEach] at h
  | [],_ :: _,us,es,x,h => by simp [DataW.weightsEach] at h
  | _ :: _,[],us,es,x,h => by simp [DataW.weightsEach] at h
  | t :: ts, d :: ds, us, es, x, h => by
    rw [DataW.weightsEach,List.mem_append] at h
    rw [List.cons_append,List.cons_append,DataW.weightsEach,List.mem_append]
    rcases h with h | h
    · exact .inl h
    · exact .inr (weightsEach_left us es h)
theorem law_contract {C:Cfg} {σ:Nat → Addr} (good:Good C σ) {f:FuncId} {fn:Func} {s:ChangeSpec} {apart fresh handsOn again:Bool} {args:Array Value} {ds gs:List (DataW H)} {before:List MemPlace} {tb:TypeId} {n base:Nat}
  (kids:Kids C.P (· < C.P.types.size)) (hz:∀ t e,t < C.P.types.size → C.P.underlying t = some (.slice e) → 0 < C.P.cellsOf e) (hT:∀ t ∈ fn.params.toList,t < C.P.types.size)
  (hin:∀ t ∈ fn.params.toList,inTy C.P n t = true) (hv:s.vars = []) (hfn:s.fn H ds = { results:=[.lit (.bool true)],args:=ds }) (hrt:fn.resultTypes = #[tb]) (htb:C.P.underlying tb = some .bool)
  (hok:∀ (j:Nat) t v,fn.params[j]? = some t → args[j]? = some v → Value.okWide C.P W .any base t v)
  (hW:DataW.Whole enc C.P fn.params.toList s.vars apart W args.toList ds gs before) (hsz:(DataW.weightsEach C.P (fn.params.toList ++ s.plain.varTypes C.P) (ds ++ gs)).all (· ≤ reachBytes) = true) (gl:GlobOk C σ (K0 W) W)
  (run:∀ xs,Shs C.P n fn.params.toList xs → ArgsRel σ (K0 W) W xs args → ∃ m H',sem C m f xs Heap.empty = some (.bool true,H')) :
  Calls C.P f args W fun e W' => ∃ v,e = .returned v ∧ s.post enc C.P fn apart fresh handsOn again W args v W':=by
 have hW0:=hW
 obtain ⟨p,q,hA,_,_,_,_⟩:=hW
 have hw:∀ x ∈ DataW.weightsEach C.P fn.params.toList ds,x ≤ reachBytes:=fun x hx => by simpa using List.all_eq_true.1 hsz x (weightsEach_left _ _ hx)
 obtain ⟨xs,q1,q2,q3⟩:=args_of (σ:=σ) (n:=n) (base:=base) _ _ _ _ hA hin hw fun j t v ht hv => hok j t v (by simpa using ht) (by simpa using hv)
 have ar:ArgsRel σ (K0 W) W xs args:=⟨by simpa using q2,fun i a b ha hb => q3 i a b ha (by simpa using hb)⟩
 obtain ⟨m,H',hrun⟩:=run xs q1 ar
 refine (call_of good gl ar hrun).mono fun e W' ⟨he,hk⟩ => ?_
 exact ⟨_,he,post_true kids hz hT hv hfn hrt htb hW0 hk⟩
end
end Go.Fv
namespace Go.Proofs.YtekncgjkocgioaaGreatDoor
open Go Go.Fv Go.Fv.Tr
theorem mixed:Tryz.prog.follows .mixedOrders = true:=by kernel_rfl
theorem callable {f : FuncId} {fn : Func} (h : Tryz.prog.funcs[f]? = some fn) (hb : fn.body.isSome = true) (hn : decide (fn.name = "runtime.NumGoroutine") = false) : Callable Tryz.prog f := ⟨fn, h, hb, of_decide_eq_false hn⟩
theorem args2 {σ:Nat → Addr} {K:Ctx} {w:World} {a b:V} {xs:Array Value} (h:ArgsRel σ K w [a,b] xs):∃ x y,xs = #[x,y] ∧ Rel σ K w a x ∧ Rel σ K w b y:=by
 obtain ⟨hl,hr⟩:=h
 have hs:xs.size = 2:=hl.symm
 have e:xs = #[xs[0],xs[1]]:=by
  apply Array.ext
  ·simpa using hs
  ·intro i h1 h2
   have:i = 0 ∨ i = 1:=by
    have:i < 2:=by omega
    omega
   rcases this with rfl | rfl <;> rfl
 exact ⟨xs[0],xs[1],e,hr 0 a xs[0] rfl (Array.getElem?_eq_getElem _),hr 1 b xs[1] rfl (Array.getElem?_eq_getElem _)⟩
def Apart (G:GV) (σ:Nat → Addr):Prop:=∀ i j,sentOf G i = true → sentOf G j = true → i ≠ j → σ i ≠ σ j
theorem kind_ext {f:FuncId} (h:kindOf f = .ext):exts.contains f = true:=by
 unfold kindOf at h
 by_cases h0:exts.contains f = true
 ·exact h0
 rw [if_neg h0] at h
 by_cases h1:seens.contains f = true
 ·rw [if_pos h1] at h; cases h
 rw [if_neg h1] at h
 by_cases h2:efs.contains f = true
 ·rw [if_pos h2] at h; cases h
 rw [if_neg h2] at h
 by_cases h3:pures.contains f = true
 ·rw [if_pos h3] at h; cases h
 rw [if_neg h3] at h
 by_cases h4:owns.contains f = true
 ·rw [if_pos h4] at h; cases h
 rw [if_neg h4] at h
 cases h
theorem kind_exts {f:FuncId} (h:kindOf f = .exts):seens.contains f = true:=by
 unfold kindOf at h
 by_cases h0:exts.contains f = true
 ·rw [if_pos h0] at h; cases h
 rw [if_neg h0] at h
 by_cases h1:seens.contains f = true
 ·exact h1
 rw [if_neg h1] at h
 by_cases h2:efs.contains f = true
 ·rw [if_pos h2] at h; cases h
 rw [if_neg h2] at h
 by_cases h3:pures.contains f = true
 ·rw [if_pos h3] at h; cases h
 rw [if_neg h3] at h
 by_cases h4:owns.contains f = true
 ·rw [if_pos h4] at h; cases h
 rw [if_neg h4] at h
 cases h
theorem kind_extm {f:FuncId} (h:kindOf f = .extm):efs.contains f = true:=by
 unfold kindOf at h
 by_cases h0:exts.contains f = true
 ·rw [if_pos h0] at h; cases h
 rw [if_neg h0] at h
 by_cases h1:seens.contains f = true
 ·rw [if_pos h1] at h; cases h
 rw [if_neg h1] at h
 by_cases h2:efs.contains f = true
 ·exact h2
 rw [if_neg h2] at h
 by_cases h3:pures.contains f = true
 ·rw [if_pos h3] at h; cases h
 rw [if_neg h3] at h
 by_cases h4:owns.contains f = true
 ·rw [if_pos h4] at h; cases h
 rw [if_neg h4] at h
 cases h
theorem goodG {G:GV} {σ:Nat → Addr} (he:∀ f,exts.contains f = true → SoundF (cfg G) σ f fun args => M.lift (extX G f args)) (hs:∀ f,seens.contains f = true → SoundF (cfg G) σ f fun args => M.lift (extX G f args))
  (hm:∀ f,efs.contains f = true → SoundF (cfg G) σ f ((cfg G).Y f)):Fv.Good (cfg G) σ:=⟨mixed,fun f hf => he f (kind_ext hf),fun f hf => hs f (kind_exts hf),fun f hf => hm f (kind_extm hf)⟩
end Go.Proofs.YtekncgjkocgioaaGreatDoor
