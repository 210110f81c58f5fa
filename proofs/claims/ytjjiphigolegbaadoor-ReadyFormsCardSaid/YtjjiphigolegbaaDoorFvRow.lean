/-
  A law's row out of a plain run. By an AI agent; no person has read it.
-/
import Derived.Test.YtjjiphigolegbaaDoorFvEntry
import Derived.ReadAgain
import Derived.SizedLaws
set_option linter.unusedVariables false
set_option linter.unusedSimpArgs false
set_option linter.unusedSectionVars false
/-! A law's row out of a plain run. -/
namespace Go.Fv
open Go Go.ChangeShapes

section
variable {P : Program} {W W' : World} {H : Type} {enc : TypeId × Value → H}

theorem Kept.keptBut (k : Kept W W') (may : MemPlace → Prop) : W.keptBut W' may := by
  refine ⟨k.os, k.output, fun i hi => ?_⟩
  rw [k.old i hi]
  cases h : W.heap[i]? with
  | none => simp
  | some o =>
    cases o with
    | cells c t fr => exact ⟨rfl, rfl, rfl, fun j _ => rfl⟩
    | map es clock => exact .inr ⟨rfl, rfl⟩
    | _ => rfl

theorem Kept.cell (k : Kept W W') {b off : Nat} (hb : b < W.heap.size) : W'.cell? ⟨b, off, none⟩ = W.cell? ⟨b, off, none⟩ := by
  simp only [World.cell?, k.old b hb]

theorem Kept.frozen (k : Kept W W') {b off : Nat} (hb : b < W.heap.size) : W'.frozen? ⟨b, off, none⟩ = W.frozen? ⟨b, off, none⟩ := by
  simp only [World.frozen?, k.old b hb]

theorem trodAll_kept (k : Kept W W') {spare : Nat → Bool} {held : Bool} : ∀ {ts : List TypeId} {vs : List Value} {ds : List (DataW H)} {ps : List MemPlace}, DataW.TrodAll enc P W 0 spare held ts vs ds ps → DataW.TrodAll enc P W' 0 spare held ts vs ds ps
  | [], [], [], _, h => h
  | _ :: _, _ :: _, _ :: _, _, ⟨p, q, ⟨n, h1⟩, h2, e⟩ => by
    refine ⟨p, q, ⟨n, DataW.trod_carry n _ _ _ h1 fun x hx => ?_⟩, trodAll_kept k h2, e⟩
    have hb := DataW.trod_lt n _ _ _ h1 x hx
    cases x with
    | cell b off => exact k.cell hb
    | map b => exact k.old b hb

theorem post_true {f : Func} {s : ChangeSpec} {apart fresh handsOn again : Bool} {args : Array Value} {ds gs : List (DataW H)} {before : List MemPlace} {tb : TypeId}
    (kids : Kids P (· < P.types.size)) (hz : ∀ t e, t < P.types.size → P.underlying t = some (.slice e) → 0 < P.cellsOf e) (hT : ∀ t ∈ f.params.toList, t < P.types.size)
    (hv : s.vars = []) (hfn : s.fn H ds = { results := [.lit (.bool true)], args := ds }) (hrt : f.resultTypes = #[tb]) (htb : P.underlying tb = some .bool)
    (hW : DataW.Whole enc P f.params.toList s.vars apart W args.toList ds gs before) (k : Kept W W') : s.post enc P f apart fresh handsOn again W args (.bool true) W' := by
  have hlt := hW.lt
  have hW0 := hW
  obtain ⟨p, q, hA, hV, he, hf, hn⟩ := hW
  rw [hv] at hV
  obtain ⟨rfl, rfl⟩ : gs = [] ∧ q = [] := by
    cases gs with
    | nil => exact ⟨rfl, hV⟩
    | cons g r => exact absurd hV (by intro h; cases h)
  rw [List.append_nil] at he
  subst he
  have e1 : s.fn H (ds ++ []) = { results := [.lit (.bool true)], args := ds } := by rw [List.append_nil]; exact hfn
  have hargs : ∀ sp : Nat → Bool, (∀ x ∈ before, sp x.block = true) → DataW.TrodAll enc P W' 0 sp true f.params.toList args.toList ds before := fun sp hs =>
    (trodAll_kept k hA).respare kids hz hT hs
  have hres : ∀ (b : Nat) (sp : Nat → Bool) (hd : Bool), DataW.TrodAll enc P W' b sp hd f.resultTypes.toList ((Value.bool true).resultList f.resultTypes.size) [.lit (.bool true)] [] := fun b sp hd => by
    rw [hrt]
    exact trodAll_mk1 ⟨1, by simp [DataW.trod, Value.cells, htb]⟩
  have hvars : ∀ sp : Nat → Bool, DataW.TrodVars enc P W' sp s.vars [] [] := fun sp => by rw [hv]; exact rfl
  have hold : ∀ x ∈ before, (fun b => decide (b < W.heap.size)) x.block = true := fun x hx => by simpa using hlt x hx
  refine ⟨ds, [], before, [], before, [], hW0, by rw [e1]; exact hres _ _ _, by rw [e1]; exact hargs _ hold, by rw [e1]; exact hvars _, k.keptBut _, fun _ => ?_⟩
  refine ⟨fun j t r h1 h2 => ?_, _, _, ([] ++ before) ++ [], ⟨[] ++ before, [], trodAll_append (hargs _ (fun _ _ => rfl)) (hres _ _ _), hvars _, rfl, fun b off hx => ?_, fun ha => ?_⟩, fun x hx _ => ?_⟩
  · rw [hrt] at h1 h2
    cases j with
    | zero =>
      simp at h1 h2
      subst h1
      have : r = .bool true := by
        have h3 : ((Value.bool true).resultList 1)[0]? = some r := h2
        simp [Value.resultList] at h3
        exact h3.symm
      subst this
      simp [Value.okWide, htb, Cell.okWide, Cell.ok]
    | succ j => simp at h1
  · have hx' : MemPlace.cell b off ∈ before := by simpa using hx
    have hb : b < W.heap.size := hlt _ hx'
    exact (k.frozen hb).trans (hf b off hx')
  · have := hn ha
    simpa using this
  · simpa using hx

/-- Plain arguments, each of its type's shape. -/
def Shs (P : Program) (n : Nat) : List TypeId → List V → Prop
  | [], [] => True
  | t :: ts, v :: vs => (∃ l, Sh P n t l ∧ v = argV P t l) ∧ Shs P n ts vs
  | _, _ => False

theorem args_of {σ : Nat → Addr} {n base : Nat} {spare : Nat → Bool} : ∀ (ts : List TypeId) (vs : List Value) (ds : List (DataW H)) (ps : List MemPlace), DataW.TrodAll enc P W 0 spare true ts vs ds ps → (∀ t ∈ ts, inTy P n t = true) → (∀ x ∈ DataW.weightsEach P ts ds, x ≤ reachBytes) →
    (∀ (j : Nat) t v, ts[j]? = some t → vs[j]? = some v → Value.okWide P W .any base t v) →
    ∃ xs, Shs P n ts xs ∧ xs.length = vs.length ∧ ∀ (i : Nat) a b, xs[i]? = some a → vs[i]? = some b → Rel σ (K0 W) W a b
  | [], [], [], _, _, _, _, _ => ⟨[], trivial, rfl, fun i a b h => by simp at h⟩
  | t :: ts, v :: vs, d :: ds, _, ⟨p, q, h1, h2, _⟩, hin, hw, hok => by
    obtain ⟨l, s1, s2⟩ := arg_of (σ := σ) (hin t (List.mem_cons_self ..)) (hok 0 t v rfl rfl) h1 fun x hx => hw x (by rw [DataW.weightsEach]; exact List.mem_append_left _ hx)
    obtain ⟨xs, q1, q2, q3⟩ := args_of (σ := σ) ts vs ds q h2 (fun t ht => hin t (List.mem_cons_of_mem _ ht)) (fun x hx => hw x (by rw [DataW.weightsEach]; exact List.mem_append_right _ hx)) fun j t v ht hv => hok (j + 1) t v (by simpa using ht) (by simpa using hv)
    refine ⟨argV P t l :: xs, ⟨⟨l, s1, rfl⟩, q1⟩, by simp [q2], fun i a b ha hb => ?_⟩
    cases i with
    | zero => simp at ha hb; subst ha; subst hb; exact s2
    | succ i => simp at ha hb; exact q3 i a b ha hb

theorem weightsEach_left : ∀ {ts : List TypeId} {ds : List (DataW H)} (us : List TypeId) (es : List (DataW H)) {x : Nat}, x ∈ DataW.weightsEach P ts ds → x ∈ DataW.weightsEach P (ts ++ us) (ds ++ es)
  | [], [], us, es, x, h => by simp [DataW.weightsEach] at h
  | [], _ :: _, us, es, x, h => by simp [DataW.weightsEach] at h
  | _ :: _, [], us, es, x, h => by simp [DataW.weightsEach] at h
  | t :: ts, d :: ds, us, es, x, h => by
    rw [DataW.weightsEach, List.mem_append] at h
    rw [List.cons_append, List.cons_append, DataW.weightsEach, List.mem_append]
    rcases h with h | h
    · exact .inl h
    · exact .inr (weightsEach_left us es h)

/-- The contract of a law, out of plain runs. -/
theorem law_contract {C : Cfg} {σ : Nat → Addr} (good : Good C σ) {f : FuncId} {fn : Func} {s : ChangeSpec} {apart fresh handsOn again : Bool} {args : Array Value} {ds gs : List (DataW H)} {before : List MemPlace} {tb : TypeId} {n base : Nat}
    (kids : Kids C.P (· < C.P.types.size)) (hz : ∀ t e, t < C.P.types.size → C.P.underlying t = some (.slice e) → 0 < C.P.cellsOf e) (hT : ∀ t ∈ fn.params.toList, t < C.P.types.size)
    (hin : ∀ t ∈ fn.params.toList, inTy C.P n t = true) (hv : s.vars = []) (hfn : s.fn H ds = { results := [.lit (.bool true)], args := ds }) (hrt : fn.resultTypes = #[tb]) (htb : C.P.underlying tb = some .bool)
    (hok : ∀ (j : Nat) t v, fn.params[j]? = some t → args[j]? = some v → Value.okWide C.P W .any base t v)
    (hW : DataW.Whole enc C.P fn.params.toList s.vars apart W args.toList ds gs before) (hsz : (DataW.weightsEach C.P (fn.params.toList ++ s.plain.varTypes C.P) (ds ++ gs)).all (· ≤ reachBytes) = true) (gl : GlobOk C σ (K0 W) W)
    (run : ∀ xs, Shs C.P n fn.params.toList xs → ArgsRel σ (K0 W) W xs args → ∃ m H', sem C m f xs Heap.empty = some (.bool true, H')) :
    Calls C.P f args W fun e W' => ∃ v, e = .returned v ∧ s.post enc C.P fn apart fresh handsOn again W args v W' := by
  have hW0 := hW
  obtain ⟨p, q, hA, _, _, _, _⟩ := hW
  have hw : ∀ x ∈ DataW.weightsEach C.P fn.params.toList ds, x ≤ reachBytes := fun x hx => by simpa using List.all_eq_true.1 hsz x (weightsEach_left _ _ hx)
  obtain ⟨xs, q1, q2, q3⟩ := args_of (σ := σ) (n := n) (base := base) _ _ _ _ hA hin hw fun j t v ht hv => hok j t v (by simpa using ht) (by simpa using hv)
  have ar : ArgsRel σ (K0 W) W xs args := ⟨by simpa using q2, fun i a b ha hb => q3 i a b ha (by simpa using hb)⟩
  obtain ⟨m, H', hrun⟩ := run xs q1 ar
  refine (call_of good gl ar hrun).mono fun e W' ⟨he, hk⟩ => ?_
  exact ⟨_, he, post_true kids hz hT hv hfn hrt htb hW0 hk⟩
end
end Go.Fv
