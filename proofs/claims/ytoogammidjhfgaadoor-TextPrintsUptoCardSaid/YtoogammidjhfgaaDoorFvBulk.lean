/-
  How much comes in: of plain arguments, by what a row's reading weighs. By an AI agent; no person has read it.
-/
import Derived.Test.YtoogammidjhfgaaDoorFvW4
set_option linter.unusedVariables false
set_option linter.unusedSimpArgs false
set_option linter.unusedSectionVars false
/-! How much comes in: of plain arguments, by what a row's reading weighs. -/
namespace Go.Fv
open Go Go.ChangeShapes

mutual
def bulk : V → Nat
  | .str s => s.size
  | .imm _ rows => bulkR rows
  | .agg l => bulkL l
  | _ => 0
def bulkL : List V → Nat
  | [] => 0
  | v :: r => bulk v + bulkL r
def bulkR : List (List V) → Nat
  | [] => 0
  | row :: r => (bulkL row + 1) + bulkR r
end
theorem bulkL_append (a b : List V) : bulkL (a ++ b) = bulkL a + bulkL b := by
  induction a with
  | nil => simp [bulkL]
  | cons x a ih => simp only [List.cons_append, bulkL, ih]; omega

/-- What weighs data. -/
structure IsBulk {H : Type} (B : DataW H → Nat) (BA : List (DataW H) → Nat) : Prop where
  one : ∀ d, 1 ≤ B d
  str : ∀ b : List UInt8, B (.lit (.string b)) = b.length + 1
  slice : ∀ e s, BA e + 1 ≤ B (.slice e s)
  agg : ∀ l, BA l + 1 ≤ B (.agg l)
  nil : BA [] = 0
  cons : ∀ d r, BA (d :: r) = B d + BA r

section
variable {σ : Nat → Addr} {P : Program} {W : World} {H : Type} {enc : TypeId × Value → H} {spare : Nat → Bool} {B : DataW H → Nat} {BA : List (DataW H) → Nat}

def CellsR (σ : Nat → Addr) (W : World) (vs : List V) (cs : List Value) : Prop :=
  vs.length = cs.length ∧ ∀ (i : Nat) a b, vs[i]? = some a → cs[i]? = some b → Rel σ (K0 W) W a b

theorem CellsR.part {vs : List V} {cs : List Value} (h : CellsR σ W vs cs) (o n : Nat) : CellsR σ W ((vs.drop o).take n) ((cs.drop o).take n) := by
  refine ⟨by simp [h.1], fun i a b ha hb => ?_⟩
  rw [List.getElem?_take] at ha hb
  split at ha
  · rename_i hi
    rw [if_pos hi] at hb
    rw [List.getElem?_drop] at ha hb
    exact h.2 _ a b ha hb
  · cases ha

theorem rows_bulk (hB : IsBulk B BA) : ∀ (rows : List (List V)) (ds : List (DataW H)), rows.length = ds.length → (∀ (i : Nat) r d, rows[i]? = some r → ds[i]? = some d → bulkL r + 1 ≤ B d) → bulkR rows ≤ BA ds
  | [], [], _, _ => by simp [bulkR]
  | [], _ :: _, h, _ => by simp at h
  | _ :: _, [], h, _ => by simp at h
  | r :: rows, d :: ds, h, hp => by
    have h1 := hp 0 r d rfl rfl
    have h2 := rows_bulk hB rows ds (by simpa using h) fun i r' d' hr hd => hp (i + 1) r' d' (by simpa using hr) (by simpa using hd)
    rw [bulkR, hB.cons]
    omega

theorem fields_bulk (hB : IsBulk B BA) {n : Nat} (vs : List V) : ∀ (fs : List Field) (off tot : Nat) (ds : List (DataW H)), fsOk P (inTy P n) fs off tot = true → off ≤ tot → fs.length = ds.length →
    (∀ (i : Nat) f d, fs[i]? = some f → ds[i]? = some d → inTy P n f.type = true → bulkL ((vs.drop f.offset).take (P.cellsOf f.type)) + 1 ≤ B d) → bulkL ((vs.drop off).take (tot - off)) ≤ BA ds
  | [], off, tot, [], h, _, _, _ => by
    have : off = tot := by simpa [fsOk] using h
    subst this
    simp [bulkL]
  | [], _, _, _ :: _, _, _, h, _ => by simp at h
  | _ :: _, _, _, [], _, _, h, _ => by simp at h
  | f :: fs, off, tot, d :: ds, h, hot, hl, hp => by
    simp only [fsOk, Bool.and_eq_true, beq_iff_eq] at h
    obtain ⟨⟨rfl, hin⟩, h⟩ := h
    have hmono : ∀ (fs : List Field) off, fsOk P (inTy P n) fs off tot = true → off ≤ tot := by
      intro fs
      induction fs with
      | nil => intro off h; have : off = tot := by simpa [fsOk] using h
               omega
      | cons g fs ih =>
        intro off h
        simp only [fsOk, Bool.and_eq_true, beq_iff_eq] at h
        have := ih _ h.2
        omega
    have hlt := hmono fs _ h
    have h1 := hp 0 f d rfl rfl hin
    have h2 := fields_bulk hB vs fs (f.offset + P.cellsOf f.type) tot ds h hlt (by simpa using hl) fun i g e hg he => hp (i + 1) g e (by simpa using hg) (by simpa using he)
    have hsplit : (vs.drop f.offset).take (tot - f.offset) = (vs.drop f.offset).take (P.cellsOf f.type) ++ (vs.drop (f.offset + P.cellsOf f.type)).take (tot - (f.offset + P.cellsOf f.type)) := by
      rw [← List.drop_drop, show tot - f.offset = P.cellsOf f.type + (tot - (f.offset + P.cellsOf f.type)) by omega, List.take_add]
    rw [hsplit, bulkL_append, hB.cons]
    omega

theorem array_bulk (hB : IsBulk B BA) (vs : List V) (c : Nat) : ∀ (k : Nat) (ds : List (DataW H)), ds.length = k → (∀ (i : Nat) d, ds[i]? = some d → bulkL ((vs.drop (i * c)).take c) + 1 ≤ B d) → bulkL (vs.take (k * c)) ≤ BA ds := by
  have gen : ∀ (ds : List (DataW H)) (o : Nat), (∀ (i : Nat) d, ds[i]? = some d → bulkL ((vs.drop (o + i * c)).take c) + 1 ≤ B d) → bulkL ((vs.drop o).take (ds.length * c)) ≤ BA ds := by
    intro ds
    induction ds with
    | nil => intro o _; simp [bulkL]
    | cons d ds ih =>
      intro o hp
      have h1 := hp 0 d rfl
      have h2 := ih (o + c) fun i e he => by
        have := hp (i + 1) e (by simpa using he)
        rw [show o + c + i * c = o + (i + 1) * c by rw [Nat.add_mul]; omega]
        exact this
      rw [List.length_cons, Nat.add_mul, Nat.one_mul, Nat.add_comm (ds.length * c) c, List.take_add, bulkL_append, hB.cons, List.drop_drop]
      simp only [Nat.zero_mul, Nat.add_zero] at h1
      omega
  intro k ds hk hp
  subst hk
  have := gen ds 0 fun i d hd => by rw [Nat.zero_add]; exact hp i d hd
  simpa using this

theorem bulk_trod (hB : IsBulk B BA) : ∀ (n : Nat) (t : TypeId) (fuel : Nat) (cs : List Value) (d : DataW H) (ps : List MemPlace) (vs : List V), inTy P n t = true → DataW.trod enc P W 0 spare true fuel t cs = some (d, ps) → Sh P n t vs → CellsR σ W vs cs → bulkL vs + 1 ≤ B d := by
  intro n
  induction n with
  | zero => intro t fuel cs d ps vs h; cases h
  | succ n ih =>
    intro t fuel cs d ps vs hin h hs hc
    cases fuel with
    | zero => simp [DataW.trod] at h
    | succ fuel =>
    unfold DataW.trod at h
    unfold inTy at hin
    have o1 := hB.one d
    cases hu : P.underlying t with
    | none => rw [hu] at hin; cases hin
    | some u =>
    rw [hu] at h hin
    simp only [Sh, hu] at hs
    cases u <;> simp only at hin <;> try (cases hin; done)
    case bool =>
      obtain ⟨b, rfl⟩ := hs
      simpa [bulkL, bulk] using o1
    case int k =>
      obtain ⟨m, _, rfl⟩ := hs
      simpa [bulkL, bulk] using o1
    case string =>
      obtain ⟨s, _, rfl⟩ := hs
      rcases cs with _ | ⟨c, _ | ⟨c', cs⟩⟩
      · simp at h
      · have hr := hc.2 0 _ _ rfl rfl
        cases hr
        simp only at h
        split at h
        · injection h with h
          injection h with h _
          subst h
          rw [hB.str]
          simp [bulkL, bulk]
        · cases h
      · simp at h
    case slice e =>
      simp only [Bool.and_eq_true, beq_iff_eq, decide_eq_true_eq] at hin
      obtain ⟨⟨_, h2⟩, h3⟩ := hin
      rcases hs with rfl | ⟨rows, rfl, _, hrows⟩
      · simpa [bulkL, bulk] using o1
      rcases cs with _ | ⟨c, _ | ⟨c', cs⟩⟩
      · simp at h
      · have hr := hc.2 0 _ _ rfl rfl
        cases hr with
        | imm0 _ a cap => simpa [bulkL, bulk, bulkR] using o1
        | imm _ _ b off cap val hI hcap hsz hcl hw hv =>
          simp only at h
          split at h
          case isFalse => cases h
          cases hm : (List.range rows.length).mapM (fun i => (W.cells? 0 ((Addr.mk b off none).add (i * P.cellsOf e)) (P.cellsOf e)).bind (DataW.trod enc P W 0 spare true fuel e)) with
          | none => rw [hm] at h; simp at h
          | some elems =>
            rw [hm] at h
            simp only [Option.bind_some] at h
            obtain ⟨rest, _, h⟩ := Option.map_eq_some_iff.1 h
            have hd := (congrArg Prod.fst h).symm
            simp only at hd
            subst hd
            have hel : elems.length = rows.length := by have := (mapM_get hm).1; simpa using this.symm
            have hadd : ∀ i j, (((Addr.mk b off none).add (i * P.cellsOf e)).add j) = ⟨b, off + i * P.cellsOf e + j, none⟩ := fun i j => by
              unfold Addr.add
              split <;> split <;> simp_all
            have key := rows_bulk hB rows (elems.map (·.1)) (by rw [List.length_map, hel]) fun i r x hri hxi => by
              have hi : i < rows.length := (List.getElem?_eq_some_iff.1 hri).1
              obtain ⟨y, hy1, hy2⟩ := mapM_at hm (List.getElem?_range hi)
              rw [List.getElem?_map, hy1] at hxi
              have hxi : y.1 = x := by simpa using hxi
              subst hxi
              cases hcs : W.cells? 0 ((Addr.mk b off none).add (i * P.cellsOf e)) (P.cellsOf e) with
              | none => rw [hcs] at hy2; simp at hy2
              | some cs' =>
                rw [hcs] at hy2
                obtain ⟨g1, g2⟩ := cells_read hcs
                have hrl := hsz r (List.mem_of_getElem? hri)
                refine ih e fuel cs' y.1 y.2 r h2 hy2 (hrows r (List.mem_of_getElem? hri)) ⟨by rw [hrl, g1], fun j p q hp hq => ?_⟩
                have hj : j < P.cellsOf e := by rw [← g1]; exact (List.getElem?_eq_some_iff.1 hq).1
                have e1 := g2 j hj
                rw [hq, hadd, hw i r j p hri hp] at e1
                have e2 : q = val i j := by simpa using e1
                subst e2
                exact hv i r j p hri hp
            have := hB.slice (elems.map (·.1)) (rest.map (·.1))
            simp only [bulkL, bulk]
            omega
      · cases c <;> simp at h
    case struct fs =>
      have h' : (if cs.length = P.cellsOf t then (fs.toList.mapM fun f => DataW.trod enc P W 0 spare true fuel f.type ((cs.drop f.offset).take (P.cellsOf f.type))).map fun xs => (DataW.agg (xs.map (·.1)), xs.flatMap (·.2)) else none) = some (d, ps) := by
        rcases cs with _ | ⟨c, _ | ⟨c', cs⟩⟩ <;> first | exact h | (cases c <;> exact h)
      split at h'
      case isFalse => cases h'
      rename_i hlen
      cases hm : fs.toList.mapM fun f => DataW.trod enc P W 0 spare true fuel f.type ((cs.drop f.offset).take (P.cellsOf f.type)) with
      | none => rw [hm] at h'; simp at h'
      | some xs =>
        have hd : d = .agg (xs.map (·.1)) := by rw [hm] at h'; simp at h'; exact h'.1.symm
        subst hd
        have hxl : fs.toList.length = xs.length := (mapM_get hm).1
        have key := fields_bulk hB vs fs.toList 0 (P.cellsOf t) (xs.map (·.1)) hin (Nat.zero_le _) (by rw [List.length_map]; exact hxl) fun i f x hf hx hin' => by
          obtain ⟨y, hy1, hy2⟩ := mapM_at hm hf
          rw [List.getElem?_map, hy1] at hx
          have hx : y.1 = x := by simpa using hx
          subst hx
          exact ih _ fuel _ y.1 y.2 _ hin' hy2 (hs.2 f (List.mem_of_getElem? hf)) (hc.part _ _)
        have := hB.agg (xs.map (·.1))
        have hv : (vs.drop 0).take (P.cellsOf t - 0) = vs := by rw [List.drop_zero, Nat.sub_zero]; exact List.take_of_length_le (by rw [hs.1]; exact Nat.le_refl _)
        rw [hv] at key
        omega
    case array k e =>
      simp only [Bool.and_eq_true, beq_iff_eq] at hin
      have h' : (if cs.length = P.cellsOf t then ((List.range k).mapM fun i => DataW.trod enc P W 0 spare true fuel e ((cs.drop (i * P.cellsOf e)).take (P.cellsOf e))).map fun xs => (DataW.agg (xs.map (·.1)), xs.flatMap (·.2)) else none) = some (d, ps) := by
        rcases cs with _ | ⟨c, _ | ⟨c', cs⟩⟩ <;> first | exact h | (cases c <;> exact h)
      split at h'
      case isFalse => cases h'
      rename_i hlen
      cases hm : (List.range k).mapM fun i => DataW.trod enc P W 0 spare true fuel e ((cs.drop (i * P.cellsOf e)).take (P.cellsOf e)) with
      | none => rw [hm] at h'; simp at h'
      | some xs =>
        have hd : d = .agg (xs.map (·.1)) := by rw [hm] at h'; simp at h'; exact h'.1.symm
        subst hd
        have hxl : k = xs.length := by have := (mapM_get hm).1; simpa using this
        have key := array_bulk hB vs (P.cellsOf e) k (xs.map (·.1)) (by rw [List.length_map]; exact hxl.symm) fun i x hx => by
          have hi : i < k := by have := (List.getElem?_eq_some_iff.1 hx).1; rw [List.length_map] at this; omega
          obtain ⟨y, hy1, hy2⟩ := mapM_at hm (List.getElem?_range hi)
          rw [List.getElem?_map, hy1] at hx
          have hx : y.1 = x := by simpa using hx
          subst hx
          exact ih _ fuel _ y.1 y.2 _ hin.1 hy2 (hs.2 i hi) (hc.part _ _)
        have := hB.agg (xs.map (·.1))
        have hv : vs.take (k * P.cellsOf e) = vs := List.take_of_length_le (by rw [hs.1, hin.2]; exact Nat.le_refl _)
        rw [hv] at key
        omega

theorem arg_bulk (hB : IsBulk B BA) {n : Nat} {t : TypeId} {v : Value} {d : DataW H} {ps : List MemPlace} {l : List V} (hin : inTy P n t = true) (h : DataW.Trod enc P W 0 spare true t v d ps) (hs : Sh P n t l) (hr : Rel σ (K0 W) W (argV P t l) v) : bulk (argV P t l) + 1 ≤ B d := by
  obtain ⟨fuel, h⟩ := h
  have fin : ∀ cs, (argV P t l).cells? = some cs → cs = l → bulk (argV P t l) = bulkL l → bulk (argV P t l) + 1 ≤ B d := fun cs h1 h2 h3 => by
    subst h2
    obtain ⟨q1, _, q3⟩ := hr.cells h1
    rw [h3]
    exact bulk_trod hB n t fuel _ d ps cs hin h hs ⟨by simpa using q1, fun i a b ha hb => q3 i a b ha (by simpa using hb)⟩
  cases n with
  | zero => cases hin
  | succ n =>
  unfold inTy at hin
  cases hu : P.underlying t with
  | none => rw [hu] at hin; cases hin
  | some u =>
  rw [hu] at hin
  simp only [Sh, hu] at hs
  cases u <;> simp only at hin <;> try (cases hin; done)
  case bool => obtain ⟨b, rfl⟩ := hs; exact fin [.bool b] (by simp [argV, hu, V.cells?]) rfl (by simp [argV, hu, bulk, bulkL])
  case int k => obtain ⟨m, _, rfl⟩ := hs; exact fin [.int k m] (by simp [argV, hu, V.cells?]) rfl (by simp [argV, hu, bulk, bulkL])
  case string => obtain ⟨s, _, rfl⟩ := hs; exact fin [.str s] (by simp [argV, hu, V.cells?]) rfl (by simp [argV, hu, bulk, bulkL])
  case slice e =>
    rcases hs with rfl | ⟨rows, rfl, _⟩
    · exact fin [.nils] (by simp [argV, hu, V.cells?]) rfl (by simp [argV, hu, bulk, bulkL])
    · exact fin [.imm (P.cellsOf e) rows] (by simp [argV, hu, V.cells?]) rfl (by simp [argV, hu, bulk, bulkL])
  case struct fs => exact fin l (by simp [argV, hu, V.cells?]) rfl (by simp [argV, hu, bulk])
  case array k e => exact fin l (by simp [argV, hu, V.cells?]) rfl (by simp [argV, hu, bulk])

theorem args_bulk (hB : IsBulk B BA) {n : Nat} : ∀ (ts : List TypeId) (vs : List Value) (ds : List (DataW H)) (ps : List MemPlace) (xs : List V), DataW.TrodAll enc P W 0 spare true ts vs ds ps → (∀ t ∈ ts, inTy P n t = true) → Shs P n ts xs →
    (∀ (i : Nat) a b, xs[i]? = some a → vs[i]? = some b → Rel σ (K0 W) W a b) → bulkL xs ≤ BA ds
  | [], [], [], _, [], _, _, _, _ => by simp [bulkL]
  | [], [], [], _, _ :: _, _, _, h, _ => h.elim
  | t :: ts, v :: vs, d :: ds, _, [], _, _, h, _ => h.elim
  | t :: ts, v :: vs, d :: ds, _, x :: xs, ⟨p, q, h1, h2, _⟩, hin, ⟨⟨l, s1, hx⟩, s2⟩, hr => by
    subst hx
    have e1 := arg_bulk hB (hin t (List.mem_cons_self ..)) h1 s1 (hr 0 _ _ rfl rfl)
    have e2 := args_bulk hB ts vs ds q xs h2 (fun t ht => hin t (List.mem_cons_of_mem _ ht)) s2 fun i a b ha hb => hr (i + 1) a b (by simpa using ha) (by simpa using hb)
    rw [bulkL, hB.cons]
    omega

/-- The contract of a law whose arguments are of a bounded bulk. -/
theorem law_contractU (hB : IsBulk B BA) {N : Nat} {C : Cfg} (good : Good C σ) {f : FuncId} {fn : Func} {s : ChangeSpec} {apart fresh handsOn again : Bool} {args : Array Value} {ds gs : List (DataW H)} {before : List MemPlace} {tb : TypeId} {n base : Nat}
    (kids : Kids C.P (· < C.P.types.size)) (hz : ∀ t e, t < C.P.types.size → C.P.underlying t = some (.slice e) → 0 < C.P.cellsOf e) (hT : ∀ t ∈ fn.params.toList, t < C.P.types.size)
    (hin : ∀ t ∈ fn.params.toList, inTy C.P n t = true) (hv : s.vars = []) (hfn : s.fn H ds = { results := [.lit (.bool true)], args := ds }) (hrt : fn.resultTypes = #[tb]) (htb : C.P.underlying tb = some .bool)
    (hok : ∀ (j : Nat) t v, fn.params[j]? = some t → args[j]? = some v → Value.okWide C.P W .any base t v)
    (hW : DataW.Whole enc C.P fn.params.toList s.vars apart W args.toList ds gs before) (hsz : (DataW.weightsEach C.P (fn.params.toList ++ s.plain.varTypes C.P) (ds ++ gs)).all (· ≤ reachBytes) = true) (gl : GlobOk C σ (K0 W) W)
    (hN : BA ds ≤ N)
    (run : ∀ xs, Shs C.P n fn.params.toList xs → ArgsRel σ (K0 W) W xs args → bulkL xs ≤ N → ∃ m H', sem C m f xs Heap.empty = some (.bool true, H')) :
    Calls C.P f args W fun e W' => ∃ v, e = .returned v ∧ s.post enc C.P fn apart fresh handsOn again W args v W' := by
  have hW0 := hW
  obtain ⟨p, q, hA, _, _, _, _⟩ := hW0
  exact law_contract good kids hz hT hin hv hfn hrt htb hok hW hsz gl fun xs h1 h2 => run xs h1 h2 (Nat.le_trans (args_bulk hB _ _ ds p xs hA hin h1 fun i a b ha hb => h2.2 i a b ha (by simpa using hb)) hN)
end
end Go.Fv
