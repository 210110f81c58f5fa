/-
  From the program's functions to shallow terms. Drawn regions step by step, for the generator. What a row's readings give: the arguments as plain values. A law's row out of a plain run. The listed variables: sentinel errors. What a run ends in, as a plain statement. Slices with memory of the call's own. From what a type's cells look like to plain data. By an AI agent; no person has read it.
-/
import Derived.Test.YtoogammidjhfgaaDoorFvW1
import Derived.KernelRfl
import Derived.Test.YtoogammidjhfgaaDoorFvW3
import Derived.ChangeSame
import Derived.ChangeVars
import Derived.RowKit
import Derived.SizedLaws
import Derived.ReadAgain
import Derived.LaidLaws
import Derived.Test.YtoogammidjhfgaaDoorFvW2
import Derived.IntWalk
set_option linter.unusedVariables false
set_option linter.unusedSimpArgs false
set_option linter.unusedSectionVars false
/-! From the program's functions to shallow terms. -/
namespace Go.Fv
open Go

theorem fnV_at {C : Cfg} {n : Nat} {f : FuncId} {fn : Func} {c : Code} (hf : C.P.funcs[f]? = some fn) (hb : fn.body = some c) (hn : decide (fn.name = "runtime.NumGoroutine") = false) (args : List V) :
    sem C (n + 1) f args = bodyV C (sem C n) fn c args := by
  show fnV C (sem C n) f args = _
  unfold fnV
  rw [hf]
  simp only
  rw [hb]
  simp only
  rw [if_neg (of_decide_eq_false hn)]

section
variable {α β γ : Type}
def getN : M Nat := fun h => some (h.next, h)
def guardM (c : Bool) (m : M α) : M α := fun h => if c = true then m h else none
theorem bind_ap (m : M α) (f : α → M β) (h : Heap) : M.bind m f h = (m h).bind fun x => f x.1 x.2 := rfl
theorem ret_ap (a : α) (h : Heap) : M.ret a h = some (a, h) := rfl
theorem lift_ap (o : Option α) (h : Heap) : M.lift o h = o.bind fun a => some (a, h) := rfl
theorem fail_ap (h : Heap) : (M.fail : M α) h = none := rfl
theorem ret_bind (a : α) (f : α → M β) : M.bind (M.ret a) f = f a := rfl
theorem bind_bind (m : M α) (f : α → M β) (g : β → M γ) : M.bind (M.bind m f) g = M.bind m fun x => M.bind (f x) g := by
  funext h
  simp only [M.bind, Option.bind_assoc]
theorem lift_some_bind (a : α) (f : α → M β) : M.bind (M.lift (some a)) f = f a := rfl
theorem fail_bind (f : α → M β) : M.bind M.fail f = M.fail := rfl
theorem lift_none : (M.lift none : M α) = M.fail := rfl
theorem lift_some (a : α) : M.lift (some a) = M.ret a := rfl
theorem guardV_true (b : Bool) (m : M V) : guardV (.bool b) true m = if b = true then m else M.ret (.tuple []) := rfl
theorem guardV_false (b : Bool) (m : M V) : guardV (.bool b) false m = if b = false then m else M.ret (.tuple []) := rfl
theorem condV_bool (b : Bool) (x y : M α) : condV (.bool b) x y = if b then x else y := rfl
theorem pickV_bool (b : Bool) (x y : V) : pickV (.bool b) x y = some (if b then x else y) := rfl

/-! ### Loops -/
theorem iter_det (F : List V → M R) : ∀ n m s h r r', iter F n s h = some r → iter F m s h = some r' → r = r'
  | 0, _, _, _, _, _, h, _ => by cases h
  | _ + 1, 0, _, _, _, _, _, h => by cases h
  | n + 1, m + 1, s, h, r, r', h1, h2 => by
    simp only [iter, M.bind] at h1 h2
    cases hF : F s h with
    | none => rw [hF] at h1; cases h1
    | some x =>
      rw [hF] at h1 h2
      simp only [Option.bind_some] at h1 h2
      obtain ⟨⟨e, s'⟩, h'⟩ := x
      cases e with
      | normal => exact iter_det F n m s' h' r r' h1 h2
      | exit j => exact Option.some.inj (h1.symm.trans h2)
      | ret => exact Option.some.inj (h1.symm.trans h2)

theorem loopV_of {F : List V → M R} {n : Nat} {s : List V} {h : Heap} {r : R × Heap} (hi : iter F n s h = some r) : loopV F s h = some r := by
  unfold loopV
  have hx : ∃ n r, iter F n s h = some r := ⟨n, r, hi⟩
  rw [dif_pos hx]
  exact congrArg some (iter_det F _ _ _ _ _ _ hx.choose_spec.choose_spec hi)

theorem iter_of {F : List V → M R} {s : List V} {h : Heap} {r : R × Heap} (hl : loopV F s h = some r) : ∃ n, iter F n s h = some r := by
  unfold loopV at hl
  split at hl
  · rename_i hx
    have := hx.choose_spec.choose_spec
    injection hl with hl
    exact ⟨_, this.trans (by rw [hl])⟩
  · cases hl

/-- One round that goes on. -/
theorem loopV_next {F : List V → M R} {s s' : List V} {h h' : Heap} (hF : F s h = some ((.normal, s'), h')) : loopV F s h = loopV F s' h' := by
  have step : ∀ n, iter F (n + 1) s h = iter F n s' h' := fun n => by
    simp only [iter, M.bind, hF, Option.bind_some]
  cases hl : loopV F s' h' with
  | some r =>
    obtain ⟨n, hn⟩ := iter_of hl
    exact loopV_of ((step n).trans hn)
  | none =>
    cases hl2 : loopV F s h with
    | none => rfl
    | some r =>
      obtain ⟨n, hn⟩ := iter_of hl2
      cases n with
      | zero => cases hn
      | succ n => rw [step n] at hn; rw [loopV_of hn] at hl; cases hl
theorem loopV_exit {F : List V → M R} {s s' : List V} {h h' : Heap} {j : Nat} (hF : F s h = some ((.exit j, s'), h')) : loopV F s h = some ((.exit j, s'), h') :=
  loopV_of (n := 1) (by simp only [iter, M.bind, hF, Option.bind_some, M.ret])
theorem loopV_ret {F : List V → M R} {s s' : List V} {h h' : Heap} (hF : F s h = some ((.ret, s'), h')) : loopV F s h = some ((.ret, s'), h') :=
  loopV_of (n := 1) (by simp only [iter, M.bind, hF, Option.bind_some, M.ret])
end
end Go.Fv

/-! Drawn regions step by step, for the generator. -/
namespace Go.Fv
open Go
def newBytes (x : V) : M V := match x with | .str b => newRows 1 (bytesRows b) false | _ => M.fail
noncomputable def runDrawnM (C : Cfg) (call : FuncId → List V → M V) (ops : Array Oper) (n0 : Nat) (l : List Oper) : Nat → Nat → List (Nat × Nat × Nat × V) → Env → (Env → M R) → M R :=
  List.rec (motive := fun _ => Nat → Nat → List (Nat × Nat × Nat × V) → Env → (Env → M R) → M R) (fun _ _ _ env K => K env)
    (fun o _ ih i n bs env K =>
      List.rec (motive := fun _ => M R → M R) (fun m => m) (fun k l _ m => guardM ((k :: l).all fun k => apartV (ptrAt bs k) (ptrOf C env o.op)) m) (conf ops i)
        ((stepD C call ops n0 i bs env o).bind fun v => getN.bind fun n' => ih (i + 1) n' ((i, n, n', ptrOf C env o.op) :: bs) (put env o.dst v) K)) l
theorem runDrawnM_eq {C : Cfg} {call : FuncId → List V → M V} {ops : Array Oper} {n0 : Nat} : ∀ (l : List Oper) (i : Nat) (bs : List (Nat × Nat × Nat × V)) (env : Env) (K : Env → M R) (h : Heap),
    runDrawnM C call ops n0 l i h.next bs env K h = runDrawn C call ops n0 l i bs env K h
  | [], _, _, _, _, _ => rfl
  | o :: l, i, bs, env, K, h => by
    have e0 : ((stepD C call ops n0 i bs env o).bind fun v => getN.bind fun n' => runDrawnM C call ops n0 l (i + 1) n' ((i, h.next, n', ptrOf C env o.op) :: bs) (put env o.dst v) K) h =
        (stepD C call ops n0 i bs env o h).bind fun x => runDrawn C call ops n0 l (i + 1) ((i, h.next, x.2.next, ptrOf C env o.op) :: bs) (put env o.dst x.1) K x.2 := by
      show (stepD C call ops n0 i bs env o h).bind (fun x => runDrawnM C call ops n0 l (i + 1) x.2.next ((i, h.next, x.2.next, ptrOf C env o.op) :: bs) (put env o.dst x.1) K x.2) = _
      congr 1
      funext x
      exact runDrawnM_eq l _ _ _ _ _
    show List.rec (motive := fun _ => M R → M R) (fun m => m) (fun k l _ m => guardM ((k :: l).all fun k => apartV (ptrAt bs k) (ptrOf C env o.op)) m) (conf ops i)
        ((stepD C call ops n0 i bs env o).bind fun v => getN.bind fun n' => runDrawnM C call ops n0 l (i + 1) n' ((i, h.next, n', ptrOf C env o.op) :: bs) (put env o.dst v) K) h =
      if (conf ops i).all fun k => apartV (ptrAt bs k) (ptrOf C env o.op) then
        (stepD C call ops n0 i bs env o h).bind fun x => runDrawn C call ops n0 l (i + 1) ((i, h.next, x.2.next, ptrOf C env o.op) :: bs) (put env o.dst x.1) K x.2
      else none
    rw [← e0]
    cases conf ops i with
    | nil => rfl
    | cons k ks => rfl

noncomputable def runKM (C : Cfg) (call : FuncId → List V → M V) (T : List Nat) (c : Code) : Env → (Ex → Env → M R) → M R :=
  Code.rec (motive := fun _ => Env → (Ex → Env → M R) → M R)
    (fun env K => K .normal env)
    (fun _ ops draw env K => match draw with
      | false => runOps C call ops ops.toList env (K .normal)
      | true => if orderOk ops then getN.bind fun n => runDrawnM C call ops n ops.toList 0 n [] env (K .normal) else M.fail)
    (fun _ _ ra rb env K => ra env (onNormal (fun env' => rb env' K) K))
    (fun c _ _ ra rb env K => condV (ev C env c) (ra env K) (rb env K))
    (fun id _ rc env K => rc env (onBlock id K))
    (fun c rc env K => (loopV (fun s => rc (restore env (carried T c) (allDsts c) s) fun e env' => M.ret (e, (carried T c).map env')) ((carried T c).map env)).bind
      (onLoop K env (carried T c) (allDsts c)))
    (fun _ _ _ _ _ _ _ _ => M.fail)
    (fun id env K => K (.exit id) env)
    (fun _ _ _ _ => M.fail)
    (fun _ env K => K .normal env)
    (fun _ _ _ => M.fail)
    (fun env K => K .ret env)
    (fun _ _ _ => M.fail)
    c
theorem runKM_eq {C : Cfg} {call : FuncId → List V → M V} {T : List Nat} (c : Code) : runKM C call T c = runK C call T c := by
  induction c with
  | region id ops draw =>
    cases draw with
    | false => rfl
    | true =>
      funext env K
      show (if orderOk ops then getN.bind fun n => runDrawnM C call ops n ops.toList 0 n [] env (K .normal) else M.fail) = if orderOk ops then fun h => runDrawn C call ops h.next ops.toList 0 [] env (K .normal) h else M.fail
      have hx : (getN.bind fun n => runDrawnM C call ops n ops.toList 0 n [] env (K .normal)) = fun h => runDrawn C call ops h.next ops.toList 0 [] env (K .normal) h := by
        funext h
        exact runDrawnM_eq _ _ _ _ _ _
      exact congrArg (fun m : M R => if orderOk ops then m else M.fail) hx
  | seq a b ha hb =>
    have e : runKM C call T (.seq a b) = fun env K => runKM C call T a env (onNormal (fun env' => runKM C call T b env' K) K) := rfl
    rw [e, ha, hb]; rfl
  | cond v a b ha hb =>
    have e : runKM C call T (.cond v a b) = fun env K => condV (ev C env v) (runKM C call T a env K) (runKM C call T b env K) := rfl
    rw [e, ha, hb]; rfl
  | block id a ha =>
    have e : runKM C call T (.block id a) = fun env K => runKM C call T a env (onBlock id K) := rfl
    rw [e, ha]; rfl
  | loop a ha =>
    have e : runKM C call T (.loop a) = fun env K => (loopV (fun s => runKM C call T a (restore env (carried T a) (allDsts a) s) fun e env' => M.ret (e, (carried T a).map env')) ((carried T a).map env)).bind
      (onLoop K env (carried T a) (allDsts a)) := rfl
    rw [e, ha]; rfl
  | _ => rfl
noncomputable def bodyVM (C : Cfg) (call : FuncId → List V → M V) (fn : Func) (c : Code) (args : List V) : M V :=
  if okFn fn c then (runKM C call (reads c ++ fn.results.toList.map fun | .tmp t => t | .cell a _ => a) c (fun t => args.getD t .undef) (finish C.P fn)).bind fun r => M.ret (r.2.getD 0 .undef) else M.fail
theorem fnV_atM {C : Cfg} {n : Nat} {f : FuncId} {fn : Func} {c : Code} (hf : C.P.funcs[f]? = some fn) (hb : fn.body = some c) (hn : decide (fn.name = "runtime.NumGoroutine") = false) (args : List V) :
    sem C (n + 1) f args = bodyVM C (sem C n) fn c args := by
  rw [fnV_at hf hb hn args]
  unfold bodyVM bodyV
  rw [runKM_eq]
  rfl
end Go.Fv

/-! What a row's readings give: the arguments as plain values. -/
namespace Go.Fv
open Go

def fsOk (P : Program) (rec : TypeId → Bool) : List Field → Nat → Nat → Bool
  | [], off, tot => off == tot
  | f :: fs, off, tot => f.offset == off && rec f.type && fsOk P rec fs (off + P.cellsOf f.type) tot
/-- Types of plain data: no pointer, interface, map, function. -/
def inTy (P : Program) : Nat → TypeId → Bool
  | 0, _ => false
  | n + 1, t => match P.underlying t with
    | some .bool | some (.int _) | some .string => P.cellsOf t == 1
    | some (.slice e) => P.cellsOf t == 1 && inTy P n e && decide (0 < P.cellsOf e)
    | some (.struct fs) => fsOk P (inTy P n) fs.toList 0 (P.cellsOf t)
    | some (.array k e) => inTy P n e && P.cellsOf t == k * P.cellsOf e
    | _ => false

/-- What cells of a type look like. -/
def Sh (P : Program) : Nat → TypeId → List V → Prop
  | 0, _, _ => False
  | n + 1, t, vs => match P.underlying t with
    | some .bool => ∃ b, vs = [.bool b]
    | some (.int k) => ∃ m, (Lit.int k m).wf = true ∧ vs = [.int k m]
    | some .string => ∃ s : ByteArray, s.size ≤ reachBytes ∧ vs = [.str s]
    | some (.slice e) => vs = [.nils] ∨ ∃ rows, vs = [.imm (P.cellsOf e) rows] ∧ (rows.length ≤ maxLen ∧ rows.length * P.bytesOf e ≤ reachBytes) ∧ ∀ r ∈ rows, Sh P n e r
    | some (.struct fs) => vs.length = P.cellsOf t ∧ ∀ f ∈ fs.toList, Sh P n f.type ((vs.drop f.offset).take (P.cellsOf f.type))
    | some (.array k e) => vs.length = P.cellsOf t ∧ ∀ i, i < k → Sh P n e ((vs.drop (i * P.cellsOf e)).take (P.cellsOf e))
    | _ => False

section
variable {σ : Nat → Addr} {P : Program} {W : World} {H : Type} {enc : TypeId × Value → H} {spare : Nat → Bool}

/-- The context of a call that begins: all memory may be read, none is written. -/
def K0 (W : World) : Ctx := ⟨fun b => b < W.heap.size, fun _ => (0, 0, 0), 0, fun _ => False⟩

/-- Plain cells that stand for cells. -/
def Cells (σ : Nat → Addr) (W : World) (vs : List V) (cs : List Value) : Prop :=
  vs.length = cs.length ∧ (∀ v ∈ vs, v.closed = true) ∧ ∀ (i : Nat) a b, vs[i]? = some a → cs[i]? = some b → Rel σ (K0 W) W a b

theorem Cells.append {vs us : List V} {cs ds : List Value} (h1 : Cells σ W vs cs) (h2 : Cells σ W us ds) : Cells σ W (vs ++ us) (cs ++ ds) := by
  refine ⟨by simp [h1.1, h2.1], fun v hv => ?_, fun i a b ha hb => ?_⟩
  · rcases List.mem_append.1 hv with h | h
    · exact h1.2.1 v h
    · exact h2.2.1 v h
  · rcases Nat.lt_or_ge i vs.length with g | g
    · rw [List.getElem?_append_left g] at ha
      rw [List.getElem?_append_left (by rw [← h1.1]; exact g)] at hb
      exact h1.2.2 i a b ha hb
    · rw [List.getElem?_append_right g] at ha
      rw [List.getElem?_append_right (by rw [← h1.1]; exact g), ← h1.1] at hb
      exact h2.2.2 _ a b ha hb

theorem Cells.one {v : V} {c : Value} (hc : v.closed = true) (h : Rel σ (K0 W) W v c) : Cells σ W [v] [c] := by
  refine ⟨rfl, fun u hu => ?_, fun i a b ha hb => ?_⟩
  · rw [List.mem_singleton] at hu; subst hu; exact hc
  · cases i with
    | zero => simp at ha hb; subst ha; subst hb; exact h
    | succ i => simp at ha

def Reads (P : Program) (σ : Nat → Addr) (W : World) (n : Nat) (t : TypeId) (cs : List Value) : Prop := ∃ vs, Sh P n t vs ∧ vs.length = P.cellsOf t ∧ Cells σ W vs cs

theorem reads_fields {n : Nat} (cs : List Value) : ∀ (fs : List Field) (off tot : Nat), fsOk P (inTy P n) fs off tot = true → tot ≤ cs.length → off ≤ tot →
    (∀ f ∈ fs, inTy P n f.type = true → Reads P σ W n f.type ((cs.drop f.offset).take (P.cellsOf f.type))) →
    ∃ vs, vs.length = tot - off ∧ Cells σ W vs ((cs.drop off).take (tot - off)) ∧ ∀ f ∈ fs, off ≤ f.offset ∧ Sh P n f.type ((vs.drop (f.offset - off)).take (P.cellsOf f.type))
  | [], off, tot, h, hle, hot, _ => by
    have : off = tot := by simpa [fsOk] using h
    subst this
    exact ⟨[], by simp, by simp; exact ⟨rfl, fun v hv => by simp at hv, fun i a b ha => by simp at ha⟩, fun f hf => by simp at hf⟩
  | f :: fs, off, tot, h, hle, hot, hr => by
    simp only [fsOk, Bool.and_eq_true, beq_iff_eq] at h
    obtain ⟨⟨rfl, hin⟩, h⟩ := h
    have hmono : ∀ (fs : List Field) off, fsOk P (inTy P n) fs off tot = true → off ≤ tot := by
      intro fs
      induction fs with
      | nil => intro off h; have : off = tot := by simpa [fsOk] using h
               omega
      | cons g fs ih =>
        intro off h
        simp only [fsOk, Bool.and_eq_true, beq_iff_eq] at h
        have := ih _ h.2
        omega
    have hlt := hmono fs _ h
    obtain ⟨vs1, s1, s2, s3⟩ := hr f (List.mem_cons_self ..) hin
    obtain ⟨vs2, r1, r2, r3⟩ := reads_fields cs fs (f.offset + P.cellsOf f.type) tot h hle hlt fun g hg => hr g (List.mem_cons_of_mem _ hg)
    have hsplit : (cs.drop f.offset).take (tot - f.offset) = (cs.drop f.offset).take (P.cellsOf f.type) ++ (cs.drop (f.offset + P.cellsOf f.type)).take (tot - (f.offset + P.cellsOf f.type)) := by
      rw [← List.drop_drop, show tot - f.offset = P.cellsOf f.type + (tot - (f.offset + P.cellsOf f.type)) by omega, List.take_add]
    refine ⟨vs1 ++ vs2, by simp [s2, r1]; omega, by rw [hsplit]; exact s3.append r2, fun g hg => ?_⟩
    rcases List.mem_cons.1 hg with rfl | hg
    · refine ⟨Nat.le_refl _, ?_⟩
      rw [Nat.sub_self, List.drop_zero, ← s2, List.take_left]
      exact s1
    · obtain ⟨q1, q2⟩ := r3 g hg
      refine ⟨by omega, ?_⟩
      rw [show g.offset - f.offset = vs1.length + (g.offset - (f.offset + P.cellsOf f.type)) by omega, List.drop_append, List.drop_of_length_le (by omega), List.nil_append]
      rw [show vs1.length + (g.offset - (f.offset + P.cellsOf f.type)) - vs1.length = g.offset - (f.offset + P.cellsOf f.type) by omega]
      exact q2

theorem list_choose {β : Type} (p : Nat → β → Prop) : ∀ n, (∀ i, i < n → ∃ b, p i b) → ∃ l : List β, l.length = n ∧ ∀ (i : Nat) b, l[i]? = some b → p i b
  | 0, _ => ⟨[], rfl, fun i b h => by simp at h⟩
  | n + 1, h => by
    obtain ⟨l, h1, h2⟩ := list_choose p n fun i hi => h i (by omega)
    obtain ⟨b, hb⟩ := h n (by omega)
    refine ⟨l ++ [b], by simp [h1], fun i c hc => ?_⟩
    rcases Nat.lt_or_ge i l.length with g | g
    · rw [List.getElem?_append_left g] at hc
      exact h2 i c hc
    · rw [List.getElem?_append_right g] at hc
      have : i - l.length = 0 := by
        have := (List.getElem?_eq_some_iff.1 hc).1
        simp at this; omega
      rw [this] at hc
      simp at hc
      subst hc
      have : i = n := by omega
      subst this; exact hb

theorem mapM_range {β : Type} {f : Nat → Option β} {n : Nat} {l : List β} (h : (List.range n).mapM f = some l) {i : Nat} (hi : i < n) : ∃ b, f i = some b := by
  obtain ⟨h1, h2⟩ := mapM_get h
  obtain ⟨b, _, h3⟩ := h2 i i (by rw [List.getElem?_range hi])
  exact ⟨b, h3⟩

theorem mapM_mem {α β : Type} {f : α → Option β} {xs : List α} {l : List β} (h : xs.mapM f = some l) {x : α} (hx : x ∈ xs) : ∃ b, f x = some b := by
  obtain ⟨i, hi, rfl⟩ := List.getElem_of_mem hx
  obtain ⟨_, h2⟩ := mapM_get h
  obtain ⟨b, _, h3⟩ := h2 i _ (List.getElem?_eq_getElem hi)
  exact ⟨b, h3⟩

theorem cells_read {a : Addr} {m : Nat} {l : List Value} (h : W.cells? 0 a m = some l) : l.length = m ∧ ∀ (j : Nat), j < m → l[j]? = W.cell? (a.add j) := by
  unfold World.cells? at h
  rw [if_pos (Nat.zero_le _)] at h
  obtain ⟨h1, h2⟩ := mapM_get h
  rw [List.length_range] at h1
  refine ⟨h1.symm, fun j hj => ?_⟩
  obtain ⟨b, h3, h4⟩ := h2 j j (by rw [List.getElem?_range hj])
  rw [h3, h4]

theorem reads_array {n : Nat} {e : TypeId} (cs : List Value) : ∀ k, k * P.cellsOf e ≤ cs.length → (∀ i, i < k → Reads P σ W n e ((cs.drop (i * P.cellsOf e)).take (P.cellsOf e))) →
    ∃ vs, vs.length = k * P.cellsOf e ∧ Cells σ W vs (cs.take (k * P.cellsOf e)) ∧ ∀ i, i < k → Sh P n e ((vs.drop (i * P.cellsOf e)).take (P.cellsOf e))
  | 0, _, _ => ⟨[], by simp, by simp; exact ⟨rfl, fun v hv => by simp at hv, fun i a b ha => by simp at ha⟩, fun i hi => by omega⟩
  | k + 1, hle, hr => by
    have hm : (k + 1) * P.cellsOf e = k * P.cellsOf e + P.cellsOf e := by rw [Nat.add_mul, Nat.one_mul]
    obtain ⟨vs, s1, s2, s3⟩ := reads_array cs k (by omega) fun i hi => hr i (by omega)
    obtain ⟨vs2, r1, r2, r3⟩ := hr k (by omega)
    refine ⟨vs ++ vs2, by simp [s1, r2]; omega, by rw [hm, List.take_add]; exact s2.append r3, fun i hi => ?_⟩
    rcases Nat.lt_or_ge i k with g | g
    · have : (i + 1) * P.cellsOf e ≤ k * P.cellsOf e := Nat.mul_le_mul_right _ g
      rw [Nat.add_mul, Nat.one_mul] at this
      rw [List.drop_append_of_le_length (by omega), List.take_append_of_le_length (by rw [List.length_drop]; omega)]
      exact s3 i g
    · have : i = k := by omega
      subst this
      rw [← s1, List.drop_left, ← r2, List.take_length]
      exact r1

theorem weights_mem_all {e : TypeId} : ∀ {ds : List (DataW H)} {d : DataW H}, d ∈ ds → ∀ n ∈ d.weights P e, n ∈ DataW.weightsAll P e ds
  | d0 :: ds, d, hd, n, hn => by
    rw [DataW.weightsAll, List.mem_append]
    rcases List.mem_cons.1 hd with rfl | h
    · exact .inl hn
    · exact .inr (weights_mem_all h n hn)

theorem mapM_at {α β : Type} {f : α → Option β} {xs : List α} {l : List β} (h : xs.mapM f = some l) {i : Nat} {a : α} (ha : xs[i]? = some a) : ∃ b, l[i]? = some b ∧ f a = some b := (mapM_get h).2 i a ha
theorem mapM_range' {β : Type} {f : Nat → Option β} {n : Nat} {l : List β} (h : (List.range n).mapM f = some l) {i : Nat} (hi : i < n) : ∃ b, b ∈ l ∧ f i = some b := by
  obtain ⟨b, h1, h2⟩ := mapM_at h (List.getElem?_range hi)
  exact ⟨b, List.mem_of_getElem? h1, h2⟩

/-- Whatever reads as data of a plain type is a plain value. -/
theorem reads_trod : ∀ (n : Nat) (t : TypeId) (fuel : Nat) (cs : List Value) (d : DataW H) (ps : List MemPlace), inTy P n t = true → DataW.trod enc P W 0 spare true fuel t cs = some (d, ps) → (∀ x ∈ d.weights P t, x ≤ reachBytes) → Reads P σ W n t cs := by
  intro n
  induction n with
  | zero => intro t fuel cs d ps h; cases h
  | succ n ih =>
    intro t fuel cs d ps hin h hw
    cases fuel with
    | zero => simp [DataW.trod] at h
    | succ fuel =>
    unfold DataW.trod at h
    unfold inTy at hin
    cases hu : P.underlying t with
    | none => rw [hu] at hin; cases hin
    | some u =>
    rw [hu] at h hin
    cases u <;> simp only at hin <;> try (cases hin; done)
    case bool =>
      have h1 : P.cellsOf t = 1 := by simpa using hin
      rcases cs with _ | ⟨c, _ | ⟨c', cs⟩⟩
      · simp at h
      · cases c <;> simp at h
        rename_i b
        exact ⟨[.bool b], by simp [Sh, hu], h1.symm, Cells.one rfl (.bool b)⟩
      · simp at h
    case int k =>
      have h1 : P.cellsOf t = 1 := by simpa using hin
      rcases cs with _ | ⟨c, _ | ⟨c', cs⟩⟩
      · simp at h
      · cases c <;> simp at h
        rename_i k' m
        obtain ⟨⟨rfl, hw⟩, _⟩ := h
        exact ⟨[.int k' m], by simp [Sh, hu, hw], h1.symm, Cells.one rfl (.int k' m)⟩
      · simp at h
    case string =>
      have h1 : P.cellsOf t = 1 := by simpa using hin
      rcases cs with _ | ⟨c, _ | ⟨c', cs⟩⟩
      · simp at h
      · cases c <;> simp at h
        rename_i s
        obtain ⟨_, rfl, _⟩ := h
        have hs := hw s.data.toList.length (by simp [DataW.weights])
        exact ⟨[.str s], by simp [Sh, hu]; simpa using hs, h1.symm, Cells.one rfl (.str s)⟩
      · simp at h
    case slice e =>
      simp only [Bool.and_eq_true, beq_iff_eq, decide_eq_true_eq] at hin
      obtain ⟨⟨h1, h2⟩, h3⟩ := hin
      rcases cs with _ | ⟨c, _ | ⟨c', cs⟩⟩
      · simp at h
      · cases c <;> try (simp at h; done)
        rename_i ptr len cap
        cases ptr with
        | none =>
          by_cases hz : len = 0 ∧ cap = 0
          · obtain ⟨rfl, rfl⟩ := hz
            exact ⟨[.nils], by simp [Sh, hu], h1.symm, Cells.one rfl .nils⟩
          · exfalso
            cases len <;> cases cap <;> simp_all
        | some a =>
          simp only at h
          split at h
          case isFalse => cases h
          rename_i hc
          cases hm : (List.range len).mapM (fun i => (W.cells? 0 (a.add (i * P.cellsOf e)) (P.cellsOf e)).bind (DataW.trod enc P W 0 spare true fuel e)) with
          | none => rw [hm] at h; simp at h
          | some elems =>
            have hd : ∃ sp, d = .slice (elems.map (·.1)) sp := by
              rw [hm] at h
              simp only [Option.bind_some] at h
              obtain ⟨rest, _, h⟩ := Option.map_eq_some_iff.1 h
              exact ⟨_, (congrArg Prod.fst h).symm⟩
            obtain ⟨sp, rfl⟩ := hd
            have hel : elems.length = len := by have := (mapM_get hm).1; simpa using this.symm
            have hby : len * P.bytesOf e ≤ reachBytes := by
              have := hw ((elems.map (·.1)).length + sp.length |> (· * P.bytesOf e)) (by simp [DataW.weights, hu])
              simp only [List.length_map, hel] at this
              exact Nat.le_trans (Nat.mul_le_mul_right _ (Nat.le_add_right _ _)) this
            have each : ∀ i, i < len → ∃ row cs', W.cells? 0 (a.add (i * P.cellsOf e)) (P.cellsOf e) = some cs' ∧ Sh P n e row ∧ row.length = P.cellsOf e ∧ Cells σ W row cs' := fun i hi => by
              obtain ⟨b, hbm, hb⟩ := mapM_range' hm hi
              cases hcs : W.cells? 0 (a.add (i * P.cellsOf e)) (P.cellsOf e) with
              | none => rw [hcs] at hb; simp at hb
              | some cs' =>
                rw [hcs] at hb
                obtain ⟨vs, q1, q2, q3⟩ := ih e fuel cs' b.1 b.2 h2 hb fun x hx => hw x (by
                  simp only [DataW.weights, hu]
                  exact List.mem_cons_of_mem _ (List.mem_append_left _ (weights_mem_all (List.mem_map_of_mem hbm) x hx)))
                exact ⟨vs, cs', rfl, q1, q2, q3⟩
            obtain ⟨rows, r1, r2⟩ := list_choose (fun i row => ∃ cs', W.cells? 0 (a.add (i * P.cellsOf e)) (P.cellsOf e) = some cs' ∧ Sh P n e row ∧ row.length = P.cellsOf e ∧ Cells σ W row cs') len each
            refine ⟨[.imm (P.cellsOf e) rows], ?_, h1.symm, Cells.one rfl ?_⟩
            · simp only [Sh, hu]
              refine .inr ⟨rows, rfl, ⟨by rw [r1]; omega, by rw [r1]; exact hby⟩, fun r hr => ?_⟩
              obtain ⟨i, hi, rfl⟩ := List.getElem_of_mem hr
              obtain ⟨_, _, q, _⟩ := r2 i _ (List.getElem?_eq_getElem hi)
              exact q
            · cases len with
              | zero =>
                have : rows = [] := List.eq_nil_of_length_eq_zero r1
                subst this
                exact .imm0 _ a cap
              | succ len =>
                obtain ⟨b, off, spot⟩ := a
                have at_ : ∀ (i : Nat) r (j : Nat) c, rows[i]? = some r → r[j]? = some c → ∃ x, W.cell? ((Addr.add ⟨b, off, spot⟩ (i * P.cellsOf e)).add j) = some x ∧ Rel σ (K0 W) W c x ∧ c.closed = true := fun i r j c hi hj => by
                  obtain ⟨cs', p1, _, p3, p4⟩ := r2 i r hi
                  obtain ⟨g1, g2⟩ := cells_read p1
                  have hjl : j < P.cellsOf e := by rw [← p3]; exact (List.getElem?_eq_some_iff.1 hj).1
                  have hx : cs'[j]? = some (cs'[j]'(by rw [g1]; exact hjl)) := List.getElem?_eq_getElem _
                  refine ⟨_, (g2 j hjl).symm.trans hx, p4.2.2 j c _ hj hx, p4.2.1 c (List.mem_of_getElem? hj)⟩
                have hspot : spot = none := by
                  have hr0 : rows[0]? = some (rows[0]'(by omega)) := List.getElem?_eq_getElem _
                  obtain ⟨cs', p1, _, p3, p4⟩ := r2 0 _ hr0
                  obtain ⟨g1, g2⟩ := cells_read p1
                  have := g2 0 h3
                  rw [List.getElem?_eq_getElem (by omega)] at this
                  have h5 : W.cell? ⟨b, off, spot⟩ = some cs'[0] := by
                    rw [this]; simp [Addr.add]
                  cases spot with
                  | none => rfl
                  | some s =>
                    unfold World.cell? at h5
                    simp only at h5
                    split at h5 <;> simp at h5
                subst hspot
                have hadd : ∀ i j, ((Addr.add ⟨b, off, none⟩ (i * P.cellsOf e)).add j) = ⟨b, off + i * P.cellsOf e + j, none⟩ := fun i j => by
                  unfold Addr.add
                  split <;> split <;> simp_all
                have key : ∀ (i : Nat) r (j : Nat) c, rows[i]? = some r → r[j]? = some c → W.cell? ⟨b, off + i * P.cellsOf e + j, none⟩ = some ((W.cell? ⟨b, off + i * P.cellsOf e + j, none⟩).getD Go.undef) ∧ Rel σ (K0 W) W c ((W.cell? ⟨b, off + i * P.cellsOf e + j, none⟩).getD Go.undef) ∧ c.closed = true := fun i r j c hi hj => by
                  obtain ⟨x, q1, q2, q3⟩ := at_ i r j c hi hj
                  rw [hadd] at q1
                  rw [q1]
                  exact ⟨rfl, q2, q3⟩
                have hb : b < W.heap.size := by
                  have hr0 : rows[0]? = some (rows[0]'(by omega)) := List.getElem?_eq_getElem _
                  obtain ⟨cs', p1, _, p3, p4⟩ := r2 0 _ hr0
                  have hc0 : (rows[0]'(by omega))[0]? = some ((rows[0]'(by omega))[0]'(by omega)) := List.getElem?_eq_getElem _
                  have := (key 0 _ 0 _ hr0 hc0).1
                  unfold World.cell? at this
                  simp only at this
                  rcases Nat.lt_or_ge b W.heap.size with g | g
                  · exact g
                  · rw [Array.getElem?_eq_none g] at this
                    simp at this
                rw [← r1]
                exact .imm _ rows b off cap (fun i j => (W.cell? ⟨b, off + i * P.cellsOf e + j, none⟩).getD Go.undef) hb (by omega)
                  (fun r hr => by
                    obtain ⟨i, hi, rfl⟩ := List.getElem_of_mem hr
                    obtain ⟨_, _, _, q, _⟩ := r2 i _ (List.getElem?_eq_getElem hi)
                    exact q)
                  (fun r hr c hc => by
                    obtain ⟨i, hi, rfl⟩ := List.getElem_of_mem hr
                    obtain ⟨j, hj, rfl⟩ := List.getElem_of_mem hc
                    exact (key i _ j _ (List.getElem?_eq_getElem hi) (List.getElem?_eq_getElem hj)).2.2)
                  (fun i r j c hi hj => (key i r j c hi hj).1) (fun i r j c hi hj => (key i r j c hi hj).2.1)
      · cases c <;> simp at h
    case struct fs =>
      have h' : (if cs.length = P.cellsOf t then (fs.toList.mapM fun f => DataW.trod enc P W 0 spare true fuel f.type ((cs.drop f.offset).take (P.cellsOf f.type))).map fun xs => (DataW.agg (xs.map (·.1)), xs.flatMap (·.2)) else none) = some (d, ps) := by
        rcases cs with _ | ⟨c, _ | ⟨c', cs⟩⟩ <;> first | exact h | (cases c <;> exact h)
      split at h'
      case isFalse => cases h'
      rename_i hlen
      cases hm : fs.toList.mapM fun f => DataW.trod enc P W 0 spare true fuel f.type ((cs.drop f.offset).take (P.cellsOf f.type)) with
      | none => rw [hm] at h'; simp at h'
      | some xs =>
        obtain ⟨vs, q1, q2, q3⟩ := reads_fields (P := P) (σ := σ) (W := W) (n := n) cs fs.toList 0 (P.cellsOf t) hin (by omega) (Nat.zero_le _) fun f hf hin' => by
          obtain ⟨i, hi, rfl⟩ := List.getElem_of_mem hf
          obtain ⟨b, hb1, hb⟩ := mapM_at hm (List.getElem?_eq_getElem hi)
          refine ih _ fuel _ b.1 b.2 hin' hb fun x hx => hw x ?_
          have hd : d = .agg (xs.map (·.1)) := by rw [hm] at h'; simp at h'; exact h'.1.symm
          subst hd
          simp only [DataW.weights, hu]
          exact DataW.weights_mem_each (j := i) (by rw [List.getElem?_map, List.getElem?_eq_getElem hi]; rfl) (by rw [List.getElem?_map, hb1]; rfl) x hx
        refine ⟨vs, ?_, by simpa using q1, ?_⟩
        · simp only [Sh, hu]
          exact ⟨by simpa using q1, fun f hf => by simpa using (q3 f hf).2⟩
        · simpa [← hlen] using q2
    case array k e =>
      simp only [Bool.and_eq_true, beq_iff_eq] at hin
      have h' : (if cs.length = P.cellsOf t then ((List.range k).mapM fun i => DataW.trod enc P W 0 spare true fuel e ((cs.drop (i * P.cellsOf e)).take (P.cellsOf e))).map fun xs => (DataW.agg (xs.map (·.1)), xs.flatMap (·.2)) else none) = some (d, ps) := by
        rcases cs with _ | ⟨c, _ | ⟨c', cs⟩⟩ <;> first | exact h | (cases c <;> exact h)
      split at h'
      case isFalse => cases h'
      rename_i hlen
      cases hm : (List.range k).mapM fun i => DataW.trod enc P W 0 spare true fuel e ((cs.drop (i * P.cellsOf e)).take (P.cellsOf e)) with
      | none => rw [hm] at h'; simp at h'
      | some xs =>
        obtain ⟨vs, q1, q2, q3⟩ := reads_array (P := P) (σ := σ) (W := W) (n := n) (e := e) cs k (by omega) fun i hi => by
          obtain ⟨b, hbm, hb⟩ := mapM_range' hm hi
          refine ih e fuel _ b.1 b.2 hin.1 hb fun x hx => hw x ?_
          have hd : d = .agg (xs.map (·.1)) := by rw [hm] at h'; simp at h'; exact h'.1.symm
          subst hd
          simp only [DataW.weights, hu]
          exact weights_mem_all (List.mem_map_of_mem hbm) x hx
        refine ⟨vs, ?_, by omega, ?_⟩
        · simp only [Sh, hu]
          exact ⟨by omega, q3⟩
        · rw [← hin.2, ← hlen, List.take_length] at q2
          exact q2

/-- One argument as a plain value. -/
def argV (P : Program) (t : TypeId) (vs : List V) : V :=
  match P.underlying t with
  | some (.struct _) | some (.array _ _) => .agg vs
  | _ => vs.getD 0 .undef

theorem agg_rel {vs : List V} {cs : Array Value} (h : Cells σ W vs cs.toList) : Rel σ (K0 W) W (.agg vs) (.agg cs) :=
  .agg vs cs (by simpa using h.1) (fun a ha => V.cell_of_closed (h.2.1 a ha)) (fun i a b ha hb => h.2.2 i a b ha (by simpa using hb))

/-- What a row reads of one argument. -/
theorem arg_of {n : Nat} {t : TypeId} {v : Value} {d : DataW H} {ps : List MemPlace} {base : Nat} (hin : inTy P n t = true) (hok : Value.okWide P W .any base t v) (h : DataW.Trod enc P W 0 spare true t v d ps) (hw : ∀ x ∈ d.weights P t, x ≤ reachBytes) :
    ∃ vs, Sh P n t vs ∧ Rel σ (K0 W) W (argV P t vs) v := by
  obtain ⟨fuel, h⟩ := h
  obtain ⟨vs, h1, h2, h3⟩ := reads_trod (σ := σ) n t fuel _ d ps hin h hw
  refine ⟨vs, h1, ?_⟩
  cases n with
  | zero => cases hin
  | succ n =>
  unfold inTy at hin
  unfold Value.okWide at hok
  unfold argV
  have one : ∀ x, v.cells = #[v] → vs = [x] → Rel σ (K0 W) W ([x].getD 0 .undef) v := fun x hc he => by
    subst he
    exact h3.2.2 0 x v rfl (by rw [hc]; rfl)
  cases hu : P.underlying t with
  | none => rw [hu] at hin; cases hin
  | some u =>
  rw [hu] at hin hok
  simp only [Sh, hu] at h1
  cases u <;> simp only at hin <;> try (cases hin; done)
  case bool =>
    obtain ⟨b, rfl⟩ := h1
    cases v <;> simp [Cell.okWide, Cell.ok, hu] at hok
    exact one _ rfl rfl
  case int k =>
    obtain ⟨m, _, rfl⟩ := h1
    cases v <;> simp [Cell.okWide, Cell.ok, hu] at hok
    exact one _ rfl rfl
  case string =>
    obtain ⟨s, _, rfl⟩ := h1
    cases v <;> simp [Cell.okWide, Cell.ok, hu] at hok
    exact one _ rfl rfl
  case slice e =>
    have hv : v.cells = #[v] := by cases v <;> first | rfl | simp [Cell.okWide, Cell.ok, hu] at hok
    rcases h1 with rfl | ⟨rows, rfl, _⟩
    · exact one _ hv rfl
    · exact one _ hv rfl
  case struct fs =>
    obtain ⟨cs, rfl, _, _⟩ := hok
    exact agg_rel h3
  case array k e =>
    obtain ⟨cs, rfl, _, _⟩ := hok
    exact agg_rel h3

/-- The world has at most new blocks. -/
structure Kept (W W' : World) : Prop where
  old : ∀ (b : Nat), b < W.heap.size → W'.heap[b]? = W.heap[b]?
  size : W.heap.size ≤ W'.heap.size
  os : W'.os = W.os
  output : W'.output = W.output

/-- A plain run from nothing stands for the Go call. -/
theorem call_of {C : Cfg} (good : Good C σ) (gl : GlobOk C σ (K0 W) W) {vs : List V} {args : Array Value} (ar : ArgsRel σ (K0 W) W vs args) {n : Nat} {f : FuncId} {b : Bool} {H' : Heap}
    (h : sem C n f vs Heap.empty = some (.bool b, H')) : Calls C.P f args W fun e W' => e = .returned (.bool b) ∧ Kept W W' := by
  have inv : Inv σ (K0 W) Heap.empty W := ⟨rfl, fun _ h => h.elim, Nat.le_refl _, fun l B h => (by simp [Heap.empty] at h), fun l l' B B' h => (by simp [Heap.empty] at h), fun _ h => h⟩
  refine (sound good n f (K0 W) Heap.empty W vs args _ H' inv gl ar h).2.mono fun e W' he => ?_
  obtain ⟨x, rfl, K', r1, _, r3⟩ := he
  refine ⟨?_, fun b hb => r3.frame b hb fun l B hl => by simp [Heap.empty] at hl, r3.size, r3.os, r3.output⟩
  cases r1
  rfl
end
end Go.Fv

/-! A law's row out of a plain run. -/
namespace Go.Fv
open Go Go.ChangeShapes

section
variable {P : Program} {W W' : World} {H : Type} {enc : TypeId × Value → H}

theorem Kept.keptBut (k : Kept W W') (may : MemPlace → Prop) : W.keptBut W' may := by
  refine ⟨k.os, k.output, fun i hi => ?_⟩
  rw [k.old i hi]
  cases h : W.heap[i]? with
  | none => simp
  | some o =>
    cases o with
    | cells c t fr => exact ⟨rfl, rfl, rfl, fun j _ => rfl⟩
    | map es clock => exact .inr ⟨rfl, rfl⟩
    | _ => rfl

theorem Kept.cell (k : Kept W W') {b off : Nat} (hb : b < W.heap.size) : W'.cell? ⟨b, off, none⟩ = W.cell? ⟨b, off, none⟩ := by
  simp only [World.cell?, k.old b hb]

theorem Kept.frozen (k : Kept W W') {b off : Nat} (hb : b < W.heap.size) : W'.frozen? ⟨b, off, none⟩ = W.frozen? ⟨b, off, none⟩ := by
  simp only [World.frozen?, k.old b hb]

theorem trodAll_kept (k : Kept W W') {spare : Nat → Bool} {held : Bool} : ∀ {ts : List TypeId} {vs : List Value} {ds : List (DataW H)} {ps : List MemPlace}, DataW.TrodAll enc P W 0 spare held ts vs ds ps → DataW.TrodAll enc P W' 0 spare held ts vs ds ps
  | [], [], [], _, h => h
  | _ :: _, _ :: _, _ :: _, _, ⟨p, q, ⟨n, h1⟩, h2, e⟩ => by
    refine ⟨p, q, ⟨n, DataW.trod_carry n _ _ _ h1 fun x hx => ?_⟩, trodAll_kept k h2, e⟩
    have hb := DataW.trod_lt n _ _ _ h1 x hx
    cases x with
    | cell b off => exact k.cell hb
    | map b => exact k.old b hb

theorem post_true {f : Func} {s : ChangeSpec} {apart fresh handsOn again : Bool} {args : Array Value} {ds gs : List (DataW H)} {before : List MemPlace} {tb : TypeId}
    (kids : Kids P (· < P.types.size)) (hz : ∀ t e, t < P.types.size → P.underlying t = some (.slice e) → 0 < P.cellsOf e) (hT : ∀ t ∈ f.params.toList, t < P.types.size)
    (hv : s.vars = []) (hfn : s.fn H ds = { results := [.lit (.bool true)], args := ds }) (hrt : f.resultTypes = #[tb]) (htb : P.underlying tb = some .bool)
    (hW : DataW.Whole enc P f.params.toList s.vars apart W args.toList ds gs before) (k : Kept W W') : s.post enc P f apart fresh handsOn again W args (.bool true) W' := by
  have hlt := hW.lt
  have hW0 := hW
  obtain ⟨p, q, hA, hV, he, hf, hn⟩ := hW
  rw [hv] at hV
  obtain ⟨rfl, rfl⟩ : gs = [] ∧ q = [] := by
    cases gs with
    | nil => exact ⟨rfl, hV⟩
    | cons g r => exact absurd hV (by intro h; cases h)
  rw [List.append_nil] at he
  subst he
  have e1 : s.fn H (ds ++ []) = { results := [.lit (.bool true)], args := ds } := by rw [List.append_nil]; exact hfn
  have hargs : ∀ sp : Nat → Bool, (∀ x ∈ before, sp x.block = true) → DataW.TrodAll enc P W' 0 sp true f.params.toList args.toList ds before := fun sp hs =>
    (trodAll_kept k hA).respare kids hz hT hs
  have hres : ∀ (b : Nat) (sp : Nat → Bool) (hd : Bool), DataW.TrodAll enc P W' b sp hd f.resultTypes.toList ((Value.bool true).resultList f.resultTypes.size) [.lit (.bool true)] [] := fun b sp hd => by
    rw [hrt]
    exact trodAll_mk1 ⟨1, by simp [DataW.trod, Value.cells, htb]⟩
  have hvars : ∀ sp : Nat → Bool, DataW.TrodVars enc P W' sp s.vars [] [] := fun sp => by rw [hv]; exact rfl
  have hold : ∀ x ∈ before, (fun b => decide (b < W.heap.size)) x.block = true := fun x hx => by simpa using hlt x hx
  refine ⟨ds, [], before, [], before, [], hW0, by rw [e1]; exact hres _ _ _, by rw [e1]; exact hargs _ hold, by rw [e1]; exact hvars _, k.keptBut _, fun _ => ?_⟩
  refine ⟨fun j t r h1 h2 => ?_, _, _, ([] ++ before) ++ [], ⟨[] ++ before, [], trodAll_append (hargs _ (fun _ _ => rfl)) (hres _ _ _), hvars _, rfl, fun b off hx => ?_, fun ha => ?_⟩, fun x hx _ => ?_⟩
  · rw [hrt] at h1 h2
    cases j with
    | zero =>
      simp at h1 h2
      subst h1
      have : r = .bool true := by
        have h3 : ((Value.bool true).resultList 1)[0]? = some r := h2
        simp [Value.resultList] at h3
        exact h3.symm
      subst this
      simp [Value.okWide, htb, Cell.okWide, Cell.ok]
    | succ j => simp at h1
  · have hx' : MemPlace.cell b off ∈ before := by simpa using hx
    have hb : b < W.heap.size := hlt _ hx'
    exact (k.frozen hb).trans (hf b off hx')
  · have := hn ha
    simpa using this
  · simpa using hx

/-- Plain arguments, each of its type's shape. -/
def Shs (P : Program) (n : Nat) : List TypeId → List V → Prop
  | [], [] => True
  | t :: ts, v :: vs => (∃ l, Sh P n t l ∧ v = argV P t l) ∧ Shs P n ts vs
  | _, _ => False

theorem args_of {σ : Nat → Addr} {n base : Nat} {spare : Nat → Bool} : ∀ (ts : List TypeId) (vs : List Value) (ds : List (DataW H)) (ps : List MemPlace), DataW.TrodAll enc P W 0 spare true ts vs ds ps → (∀ t ∈ ts, inTy P n t = true) → (∀ x ∈ DataW.weightsEach P ts ds, x ≤ reachBytes) →
    (∀ (j : Nat) t v, ts[j]? = some t → vs[j]? = some v → Value.okWide P W .any base t v) →
    ∃ xs, Shs P n ts xs ∧ xs.length = vs.length ∧ ∀ (i : Nat) a b, xs[i]? = some a → vs[i]? = some b → Rel σ (K0 W) W a b
  | [], [], [], _, _, _, _, _ => ⟨[], trivial, rfl, fun i a b h => by simp at h⟩
  | t :: ts, v :: vs, d :: ds, _, ⟨p, q, h1, h2, _⟩, hin, hw, hok => by
    obtain ⟨l, s1, s2⟩ := arg_of (σ := σ) (hin t (List.mem_cons_self ..)) (hok 0 t v rfl rfl) h1 fun x hx => hw x (by rw [DataW.weightsEach]; exact List.mem_append_left _ hx)
    obtain ⟨xs, q1, q2, q3⟩ := args_of (σ := σ) ts vs ds q h2 (fun t ht => hin t (List.mem_cons_of_mem _ ht)) (fun x hx => hw x (by rw [DataW.weightsEach]; exact List.mem_append_right _ hx)) fun j t v ht hv => hok (j + 1) t v (by simpa using ht) (by simpa using hv)
    refine ⟨argV P t l :: xs, ⟨⟨l, s1, rfl⟩, q1⟩, by simp [q2], fun i a b ha hb => ?_⟩
    cases i with
    | zero => simp at ha hb; subst ha; subst hb; exact s2
    | succ i => simp at ha hb; exact q3 i a b ha hb

theorem weightsEach_left : ∀ {ts : List TypeId} {ds : List (DataW H)} (us : List TypeId) (es : List (DataW H)) {x : Nat}, x ∈ DataW.weightsEach P ts ds → x ∈ DataW.weightsEach P (ts ++ us) (ds ++ es)
  | [], [], us, es, x, h => by simp [DataW.weightsEach] at h
  | [], _ :: _, us, es, x, h => by simp [DataW.weightsEach] at h
  | _ :: _, [], us, es, x, h => by simp [DataW.weightsEach] at h
  | t :: ts, d :: ds, us, es, x, h => by
    rw [DataW.weightsEach, List.mem_append] at h
    rw [List.cons_append, List.cons_append, DataW.weightsEach, List.mem_append]
    rcases h with h | h
    · exact .inl h
    · exact .inr (weightsEach_left us es h)

/-- The contract of a law, out of plain runs. -/
theorem law_contract {C : Cfg} {σ : Nat → Addr} (good : Good C σ) {f : FuncId} {fn : Func} {s : ChangeSpec} {apart fresh handsOn again : Bool} {args : Array Value} {ds gs : List (DataW H)} {before : List MemPlace} {tb : TypeId} {n base : Nat}
    (kids : Kids C.P (· < C.P.types.size)) (hz : ∀ t e, t < C.P.types.size → C.P.underlying t = some (.slice e) → 0 < C.P.cellsOf e) (hT : ∀ t ∈ fn.params.toList, t < C.P.types.size)
    (hin : ∀ t ∈ fn.params.toList, inTy C.P n t = true) (hv : s.vars = []) (hfn : s.fn H ds = { results := [.lit (.bool true)], args := ds }) (hrt : fn.resultTypes = #[tb]) (htb : C.P.underlying tb = some .bool)
    (hok : ∀ (j : Nat) t v, fn.params[j]? = some t → args[j]? = some v → Value.okWide C.P W .any base t v)
    (hW : DataW.Whole enc C.P fn.params.toList s.vars apart W args.toList ds gs before) (hsz : (DataW.weightsEach C.P (fn.params.toList ++ s.plain.varTypes C.P) (ds ++ gs)).all (· ≤ reachBytes) = true) (gl : GlobOk C σ (K0 W) W)
    (run : ∀ xs, Shs C.P n fn.params.toList xs → ArgsRel σ (K0 W) W xs args → ∃ m H', sem C m f xs Heap.empty = some (.bool true, H')) :
    Calls C.P f args W fun e W' => ∃ v, e = .returned v ∧ s.post enc C.P fn apart fresh handsOn again W args v W' := by
  have hW0 := hW
  obtain ⟨p, q, hA, _, _, _, _⟩ := hW
  have hw : ∀ x ∈ DataW.weightsEach C.P fn.params.toList ds, x ≤ reachBytes := fun x hx => by simpa using List.all_eq_true.1 hsz x (weightsEach_left _ _ hx)
  obtain ⟨xs, q1, q2, q3⟩ := args_of (σ := σ) (n := n) (base := base) _ _ _ _ hA hin hw fun j t v ht hv => hok j t v (by simpa using ht) (by simpa using hv)
  have ar : ArgsRel σ (K0 W) W xs args := ⟨by simpa using q2, fun i a b ha hb => q3 i a b ha (by simpa using hb)⟩
  obtain ⟨m, H', hrun⟩ := run xs q1 ar
  refine (call_of good gl ar hrun).mono fun e W' ⟨he, hk⟩ => ?_
  exact ⟨_, he, post_true kids hz hT hv hfn hrt htb hW0 hk⟩
end
end Go.Fv

/-! The listed variables: sentinel errors. -/
namespace Go.Fv
open Go

section
variable {P : Program} {W : World}

theorem laid_mem : ∀ {laid : List (String × DataW Unit)} {ps : List MemPlace}, DataW.LaidVars P W laid ps → ∀ x ∈ laid,
    ∃ g t cs fuel p, P.globalNamed x.1 = some g ∧ (P.globals[g]?).map (·.type) = some t ∧ W.var? P x.1 = some cs ∧ DataW.trod (fun _ => ()) P W 0 (fun _ => true) false fuel t cs.toList = some (x.2, p) ∧ (∀ y ∈ MemPlace.row ⟨g, 0, none⟩ cs.size, y ∈ ps) ∧ ∀ y ∈ p, y ∈ ps
  | (n, d) :: r, ps, h, x, hx => by
    obtain ⟨g, t, cs, fuel, p, q, h1, h2, h3, h4, h5, h6⟩ := h
    rcases List.mem_cons.1 hx with rfl | hx
    · exact ⟨g, t, cs, fuel, p, h1, h2, h3, h4, fun y hy => by rw [h6]; exact List.mem_append_left _ (List.mem_append_left _ hy), fun y hy => by rw [h6]; exact List.mem_append_left _ (List.mem_append_right _ hy)⟩
    · obtain ⟨g', t', cs', f', p', q1, q2, q3, q4, q5, q6⟩ := laid_mem h5 x hx
      exact ⟨g', t', cs', f', p', q1, q2, q3, q4, fun y hy => by rw [h6]; exact List.mem_append_right _ (q5 y hy), fun y hy => by rw [h6]; exact List.mem_append_right _ (q6 y hy)⟩

/-- A sentinel's cell. -/
theorem sentinel_cell {laid : List (String × DataW Unit)} (hm : laidMet P laid W) {name : String} {text : List UInt8} (hx : (name, DataW.iface "*errors.errorString" (.ptr (.agg [.lit (.string text)]))) ∈ laid)
    {g : Nat} {ti tp te ts : TypeId} {ms : Array (String × TypeId)} {f : Field} (hg : P.globalNamed name = some g) (ht : (P.globals[g]?).map (·.type) = some ti)
    (hi : P.underlying ti = some (.interface ms)) (hrow : ∀ u, P.typeName? 3 u = some "*errors.errorString" → u = tp)
    (hp : P.underlying tp = some (.pointer te)) (he : P.underlying te = some (.struct #[f])) (hft : f.type = ts) (hfo : f.offset = 0) (hs : P.underlying ts = some .string) (hc : P.cellsOf te = 1) (hcs : P.cellsOf ts = 1) :
    ∃ a, W.cell? ⟨g, 0, none⟩ = some (.iface tp (.pointer (some a))) ∧ (∃ s : ByteArray, W.cell? a = some (.string s) ∧ s.data.toList = text) ∧ ∃ cs t, W.heap[a.block]? = some (Obj.cells cs t (0, 0)) := by
  obtain ⟨ps, hl, _, hps⟩ := hm
  obtain ⟨g', t', cs, fuel, p, q1, q2, q3, q4, q5, q6⟩ := laid_mem hl _ hx
  rw [hg] at q1; injection q1 with q1; subst q1
  rw [ht] at q2; injection q2 with q2; subst q2
  have hcell : ∀ i, W.cell? ⟨g, i, none⟩ = cs[i]? := fun i => by simpa using World.var?_cell hg q3 i
  obtain ⟨a, s, e1, e2, e3, _, e5⟩ := errorString_of_trod hi hrow hp he hft hfo hs hc hcs q4 (fun u v hcs' => by
    have hsz : cs.size = 1 := by rw [← Array.length_toList, hcs']; rfl
    have hmem : MemPlace.cell g 0 ∈ ps := q5 _ (by rw [hsz]; simp [MemPlace.row])
    refine (hps g 0 hmem).2 u v ?_
    rw [hcell 0, ← Array.getElem?_toList, hcs']; rfl)
  refine ⟨a, by rw [hcell 0, ← Array.getElem?_toList, e1]; rfl, ⟨s, e2, e3⟩, ?_⟩
  have hm : MemPlace.cell a.block a.off ∈ ps := q6 _ (by rw [e5]; simp [MemPlace.row])
  exact (hps _ _ hm).1
end
end Go.Fv

/-! What a run ends in, as a plain statement. -/
namespace Go.Fv
open Go

section
variable {α β : Type} {H : Heap}

/-- The run ends, and in what. -/
def Run (m : M α) (H : Heap) (Q : α → Heap → Prop) : Prop := ∃ r H', m H = some (r, H') ∧ Q r H'

theorem Run.bind {m : M α} {f : α → M β} {Q : β → Heap → Prop} : Run (M.bind m f) H Q ↔ Run m H fun a H' => Run (f a) H' Q := by
  constructor
  · rintro ⟨r, H', h, q⟩
    simp only [M.bind] at h
    cases hm : m H with
    | none => rw [hm] at h; cases h
    | some x => rw [hm] at h; exact ⟨x.1, x.2, hm, r, H', h, q⟩
  · rintro ⟨a, H1, h, r, H', h', q⟩
    exact ⟨r, H', by simp only [M.bind, h, Option.bind_some]; exact h', q⟩
theorem Run.ret {a : α} {Q : α → Heap → Prop} : Run (M.ret a) H Q ↔ Q a H :=
  ⟨fun ⟨_, _, h, q⟩ => by cases h; exact q, fun q => ⟨a, H, rfl, q⟩⟩
theorem Run.lift {a : α} {Q : α → Heap → Prop} : Run (M.lift (some a)) H Q ↔ Q a H :=
  ⟨fun ⟨_, _, h, q⟩ => by cases h; exact q, fun q => ⟨a, H, rfl, q⟩⟩
theorem Run.liftO {o : Option α} {Q : α → Heap → Prop} : Run (M.lift o) H Q ↔ ∃ a, o = some a ∧ Q a H := by
  cases o with
  | none => exact ⟨fun ⟨_, _, h, _⟩ => (by cases h), fun ⟨_, h, _⟩ => by cases h⟩
  | some a => exact Run.lift.trans ⟨fun q => ⟨a, rfl, q⟩, fun ⟨_, h, q⟩ => by cases h; exact q⟩
theorem Run.fail {Q : α → Heap → Prop} : Run (M.fail : M α) H Q ↔ False := ⟨fun ⟨_, _, h, _⟩ => (by cases h), fun h => h.elim⟩
theorem Run.cond {b : Bool} {x y : M α} {Q : α → Heap → Prop} : Run (condV (.bool b) x y) H Q ↔ (b = true → Run x H Q) ∧ (b = false → Run y H Q) := by
  cases b
  · exact ⟨fun h => ⟨fun e => (by cases e), fun _ => h⟩, fun h => h.2 rfl⟩
  · exact ⟨fun h => ⟨fun _ => h, fun e => (by cases e)⟩, fun h => h.1 rfl⟩
theorem Run.guardT {b : Bool} {m : M V} {Q : V → Heap → Prop} : Run (guardV (.bool b) true m) H Q ↔ (b = true → Run m H Q) ∧ (b = false → Q (.tuple []) H) := by
  cases b
  · exact Run.ret.trans ⟨fun h => ⟨fun e => (by cases e), fun _ => h⟩, fun h => h.2 rfl⟩
  · exact ⟨fun h => ⟨fun _ => h, fun e => (by cases e)⟩, fun h => h.1 rfl⟩
theorem Run.guardF {b : Bool} {m : M V} {Q : V → Heap → Prop} : Run (guardV (.bool b) false m) H Q ↔ (b = false → Run m H Q) ∧ (b = true → Q (.tuple []) H) := by
  cases b
  · exact ⟨fun h => ⟨fun _ => h, fun e => (by cases e)⟩, fun h => h.1 rfl⟩
  · exact Run.ret.trans ⟨fun h => ⟨fun e => (by cases e), fun _ => h⟩, fun h => h.2 rfl⟩
theorem Run.iteM {c : Prop} [Decidable c] {x y : M α} {Q : α → Heap → Prop} : Run (if c then x else y) H Q ↔ (c → Run x H Q) ∧ (¬c → Run y H Q) := by
  by_cases h : c
  · rw [if_pos h]; exact ⟨fun g => ⟨fun _ => g, fun e => (e h).elim⟩, fun g => g.1 h⟩
  · rw [if_neg h]; exact ⟨fun g => ⟨fun e => (h e).elim, fun _ => g⟩, fun g => g.2 h⟩
theorem Run.mono {m : M α} {Q Q' : α → Heap → Prop} (h : Run m H Q) (hq : ∀ a H', Q a H' → Q' a H') : Run m H Q' := by
  obtain ⟨r, H', e, q⟩ := h
  exact ⟨r, H', e, hq _ _ q⟩
theorem Run.of {m : M α} {r : α} {H' : Heap} {Q : α → Heap → Prop} (h : m H = some (r, H')) (q : Q r H') : Run m H Q := ⟨r, H', h, q⟩
theorem Run.eq {m : M α} {r : α} {H' : Heap} {Q : α → Heap → Prop} (h : m H = some (r, H')) : Run m H Q ↔ Q r H' :=
  ⟨fun ⟨_, _, h', q⟩ => by rw [h] at h'; cases h'; exact q, fun q => ⟨r, H', h, q⟩⟩

theorem Run.getN {Q : Nat → Heap → Prop} : Run Fv.getN H Q ↔ Q H.next H := Run.eq rfl
theorem Run.guardM {c : Bool} {m : M α} {Q : α → Heap → Prop} : Run (Fv.guardM c m) H Q ↔ c = true ∧ Run m H Q := by
  cases c
  · exact ⟨fun ⟨_, _, h, _⟩ => (by cases h), fun h => (by cases h.1)⟩
  · exact ⟨fun h => ⟨rfl, h⟩, fun h => h.2⟩
/-- The heap behind a call that was shown a part of it. -/
def Heap.q (H : Heap) (v : Nat → Bool) : Heap := ⟨fun l => if l < H.next then H.blk l else if v l = true then H.blk l else none, H.next, H.floor⟩
theorem Run.qret {v : Nat → Bool} {r : V} {Q : V → Heap → Prop} : Run (qrun v (M.ret r)) H Q ↔ Q r (H.q v) := Run.eq rfl
theorem qrun_guardT {v : Nat → Bool} {b : Bool} {m : M V} : qrun v (guardV (.bool b) true m) = if b = true then qrun v m else qrun v (M.ret (.tuple [])) := by cases b <;> rfl
theorem qrun_guardF {v : Nat → Bool} {b : Bool} {m : M V} : qrun v (guardV (.bool b) false m) = if b = true then qrun v (M.ret (.tuple [])) else qrun v m := by cases b <;> rfl
theorem Heap.q_blk (v : Nat → Bool) (l : Nat) : (H.q v).blk l = if l < H.next then H.blk l else if v l = true then H.blk l else none := rfl
theorem Heap.q_next (v : Nat → Bool) : (H.q v).next = H.next := rfl
theorem Heap.q_floor (v : Nat → Bool) : (H.q v).floor = H.floor := rfl

theorem pick_and {b c : Bool} : pickV (.bool b) (.bool c) (.bool false) = some (.bool (b && c)) := by cases b <;> rfl
theorem pick_or {b c : Bool} : pickV (.bool b) (.bool true) (.bool c) = some (.bool (b || c)) := by cases b <;> rfl
theorem pick_t {x y : V} : pickV (.bool true) x y = some x := rfl
theorem pick_f {x y : V} : pickV (.bool false) x y = some y := rfl

theorem arith_lss {k : IntKind} {a b : Int} : arithV .lss (.int k a) (.int k b) = some (.bool (decide (a < b))) := by simp [arithV]
theorem arith_leq {k : IntKind} {a b : Int} : arithV .leq (.int k a) (.int k b) = some (.bool (decide (a ≤ b))) := by simp [arithV]
theorem arith_gtr {k : IntKind} {a b : Int} : arithV .gtr (.int k a) (.int k b) = some (.bool (decide (b < a))) := by simp [arithV]
theorem arith_geq {k : IntKind} {a b : Int} : arithV .geq (.int k a) (.int k b) = some (.bool (decide (b ≤ a))) := by simp [arithV]
theorem arith_add {a b : Int} (h : -9223372036854775808 ≤ a + b) (h' : a + b ≤ 9223372036854775807) : arithV .add (.int .i64 a) (.int .i64 b) = some (.int .i64 (a + b)) := by
  have : IntKind.i64.wrap (a + b) = a + b := Go.IntWalk.i64_in _ ⟨h, h'⟩
  simp [arithV, this]
theorem arith_sub {a b : Int} (h : -9223372036854775808 ≤ a - b) (h' : a - b ≤ 9223372036854775807) : arithV .sub (.int .i64 a) (.int .i64 b) = some (.int .i64 (a - b)) := by
  have : IntKind.i64.wrap (a - b) = a - b := Go.IntWalk.i64_in _ ⟨h, h'⟩
  simp [arithV, this]
theorem eq_int {c : Bool} {k : IntKind} {a b : Int} : eqV (.sc .int) c (.int k a) (.int k b) = some (a == b) := by simp [eqV, eqC]
theorem eq_bool {c : Bool} {a b : Bool} : eqV (.sc .bool) c (.bool a) (.bool b) = some (a == b) := rfl
theorem eq_str {c : Bool} {a b : ByteArray} : eqV (.sc .str) c (.str a) (.str b) = some (a.toList == b.toList) := rfl
theorem eq_nili : eqV .iface true .nili .nili = some true := rfl
theorem eq_ifnil {c : Bool} {t : TypeId} {v : V} : eqV .iface c (.iface t v) .nili = some false := rfl
theorem eq_nilif {c : Bool} {t : TypeId} {v : V} : eqV .iface c .nili (.iface t v) = some false := rfl
theorem un_not {b : Bool} : unV .not (.bool b) = some (.bool !b) := rfl
theorem cells_agg {l : List V} : (V.agg l).cells? = some l := rfl
theorem cells_int {k : IntKind} {n : Int} : (V.int k n).cells? = some [.int k n] := rfl
theorem cells_bool {b : Bool} : (V.bool b).cells? = some [.bool b] := rfl
theorem cells_str {s : ByteArray} : (V.str s).cells? = some [.str s] := rfl
theorem cells_nils : V.nils.cells? = some [.nils] := rfl
theorem cells_emp : V.emp.cells? = some [.emp] := rfl
theorem cells_imm {sz : Nat} {rows : List (List V)} : (V.imm sz rows).cells? = some [.imm sz rows] := rfl
theorem cells_ref {l sz s n c : Nat} {ex : Bool} : (V.ref l sz s n c ex).cells? = some [.ref l sz s n c ex] := rfl
theorem cells_nili : V.nili.cells? = some [.nili] := rfl
theorem cells_iface {t : TypeId} {v : V} : (V.iface t v).cells? = some [.iface t v] := rfl
theorem cells_ptr {l i o : Nat} : (V.ptr l i o).cells? = some [.ptr l i o] := rfl
theorem cells_nilp : V.nilp.cells? = some [.nilp] := rfl
theorem cells_fn {f : FuncId} {c : List V} : (V.fn f c).cells? = some [.fn f c] := rfl
theorem padd_ptr {n l i o : Nat} : padd n (.ptr l i o) = some (.ptr l i (o + n)) := rfl
theorem padd_iptr {n o : Nat} {r : List V} : padd n (.iptr r o) = some (.iptr r (o + n)) := rfl
theorem condT {x y : M α} : condV (.bool true) x y = x := rfl
theorem condF {x y : M α} : condV (.bool false) x y = y := rfl
theorem condN {b : Bool} {x y : M α} : condV (.bool !b) x y = condV (.bool b) y x := by cases b <;> rfl
theorem guardTT {m : M V} : guardV (.bool true) true m = m := rfl
theorem guardFT {m : M V} : guardV (.bool false) true m = M.ret (.tuple []) := rfl
theorem guardTF {m : M V} : guardV (.bool true) false m = M.ret (.tuple []) := rfl
theorem guardS {l : List V} {w : Bool} {m : M V} : guardV (.tuple l) w m = M.ret (.tuple []) := rfl
theorem guardFF {m : M V} : guardV (.bool false) false m = m := rfl
theorem guardNT {b : Bool} {m : M V} : guardV (.bool !b) true m = guardV (.bool b) false m := by cases b <;> rfl
theorem guardNF {b : Bool} {m : M V} : guardV (.bool !b) false m = guardV (.bool b) true m := by cases b <;> rfl
theorem Run.gC {b : Bool} {x y : M α} {Q : α → Heap → Prop} (h1 : b = true → Run (condV (.bool true) x y) H Q) (h2 : b = false → Run (condV (.bool false) x y) H Q) : Run (condV (.bool b) x y) H Q := by
  cases b
  · exact h2 rfl
  · exact h1 rfl
theorem Run.gG {b w : Bool} {m : M V} {Q : V → Heap → Prop} (h1 : b = true → Run (guardV (.bool true) w m) H Q) (h2 : b = false → Run (guardV (.bool false) w m) H Q) : Run (guardV (.bool b) w m) H Q := by
  cases b
  · exact h2 rfl
  · exact h1 rfl
theorem Run.gQ {v : Nat → Bool} {b w : Bool} {m : M V} {Q : V → Heap → Prop} (h1 : b = true → Run (qrun v (guardV (.bool true) w m)) H Q) (h2 : b = false → Run (qrun v (guardV (.bool false) w m)) H Q) : Run (qrun v (guardV (.bool b) w m)) H Q := by
  cases b
  · exact h2 rfl
  · exact h1 rfl

/-! ### Memory -/
theorem Heap.add_blk (b : Blk) (l : Nat) : (H.add b).blk l = if l = H.next then some b else H.blk l := rfl
theorem Heap.add_new (b : Blk) : (H.add b).blk H.next = some b := if_pos rfl
theorem Heap.add_old {b : Blk} {l : Nat} (h : l < H.next) : (H.add b).blk l = H.blk l := if_neg (by omega)
theorem Heap.add_next (b : Blk) : (H.add b).next = H.next + 1 := rfl
theorem Heap.add_floor (b : Blk) : (H.add b).floor = H.floor := rfl
theorem Heap.set_blk (b : Blk) (l x : Nat) : (H.set l b).blk x = if x = l then some b else H.blk x := rfl
theorem Heap.set_next (b : Blk) (l : Nat) : (H.set l b).next = H.next := rfl
theorem Heap.set_floor (b : Blk) (l : Nat) : (H.set l b).floor = H.floor := rfl
theorem Heap.kill_blk (l x : Nat) : (H.kill l).blk x = if x = l then none else H.blk x := rfl
theorem Heap.kill_next (l : Nat) : (H.kill l).next = H.next := rfl
theorem Heap.kill_floor (l : Nat) : (H.kill l).floor = H.floor := rfl
theorem Heap.empty_next : Heap.empty.next = 0 := rfl
theorem Heap.empty_floor : Heap.empty.floor = 0 := rfl
theorem Heap.empty_blk (l : Nat) : Heap.empty.blk l = none := rfl

theorem Run.newA {l : List V} {Q : V → Heap → Prop} : Run (newV (.agg l)) H Q ↔ Q (.ptr H.next 0 0) (H.add ⟨l.length, [l]⟩) := Run.eq rfl
theorem Run.newO {v : V} (hv : v.cells? = some [v]) {Q : V → Heap → Prop} : Run (newV v) H Q ↔ Q (.ptr H.next 0 0) (H.add ⟨1, [[v]]⟩) :=
  Run.eq (by simp only [newV, hv, Option.bind_some]; rfl)
theorem Run.load1i {row : List V} {o : Nat} {Q : V → Heap → Prop} : Run (load1 (.iptr row o)) H Q ↔ ∃ v, row[o]? = some v ∧ Q v H := by
  cases h : row[o]? with
  | none => exact ⟨fun ⟨_, _, e, _⟩ => by simp [load1, placeV, h] at e, fun ⟨_, e, _⟩ => by cases e⟩
  | some v => exact (Run.eq (by simp [load1, placeV, h])).trans ⟨fun q => ⟨v, rfl, q⟩, fun ⟨_, e, q⟩ => by cases e; exact q⟩
theorem Run.load1p {l i o : Nat} {Q : V → Heap → Prop} : Run (load1 (.ptr l i o)) H Q ↔ ∃ b, H.blk l = some b ∧ ∃ row, b.rows[i]? = some row ∧ ∃ v, row[o]? = some v ∧ Q v H := by
  constructor
  · rintro ⟨r, H', e, q⟩
    simp only [load1, placeV] at e
    cases hb : H.blk l with
    | none => rw [hb] at e; cases e
    | some b =>
      simp only [hb, Option.bind_some] at e
      cases hr : b.rows[i]? with
      | none => rw [hr] at e; cases e
      | some row =>
        simp only [hr, Option.bind_some] at e
        cases hv : row[o]? with
        | none => rw [hv] at e; cases e
        | some v => rw [hv] at e; cases e; exact ⟨b, rfl, row, hr, _, hv, q⟩
  · rintro ⟨b, h1, row, h2, v, h3, q⟩
    exact ⟨v, H, by simp [load1, placeV, h1, h2, h3], q⟩
theorem Run.loadNi {n : Nat} {row : List V} {o : Nat} {Q : V → Heap → Prop} : Run (loadN n (.iptr row o)) H Q ↔ o + n ≤ row.length ∧ Q (.agg ((row.drop o).take n)) H := by
  by_cases h : o + n ≤ row.length
  · exact (Run.eq (by simp [loadN, placeV, h])).trans ⟨fun q => ⟨h, q⟩, fun q => q.2⟩
  · exact ⟨fun ⟨_, _, e, _⟩ => by simp [loadN, placeV, h] at e, fun q => (h q.1).elim⟩
theorem Run.loadNp {n l i o : Nat} {Q : V → Heap → Prop} : Run (loadN n (.ptr l i o)) H Q ↔ ∃ b, H.blk l = some b ∧ ∃ row, b.rows[i]? = some row ∧ o + n ≤ row.length ∧ Q (.agg ((row.drop o).take n)) H := by
  constructor
  · rintro ⟨r, H', e, q⟩
    simp only [loadN, placeV] at e
    cases hb : H.blk l with
    | none => rw [hb] at e; cases e
    | some b =>
      simp only [hb, Option.bind_some] at e
      cases hr : b.rows[i]? with
      | none => rw [hr] at e; cases e
      | some row =>
        simp only [hr, Option.bind_some] at e
        by_cases hl : o + n ≤ row.length
        · rw [if_pos hl] at e; cases e; exact ⟨b, rfl, row, hr, hl, q⟩
        · rw [if_neg hl] at e; cases e
  · rintro ⟨b, h1, row, h2, h3, q⟩
    exact ⟨_, H, by simp [loadN, placeV, h1, h2, h3], q⟩
theorem Run.storeN {n l i o : Nat} {v : V} {Q : V → Heap → Prop} : Run (storeN n (.ptr l i o) v) H Q ↔ H.floor ≤ l ∧ ∃ cs, v.cells? = some cs ∧ cs.length = n ∧ ∃ b, H.blk l = some b ∧ ∃ row, b.rows[i]? = some row ∧ o + n ≤ row.length ∧
    Q .undef (H.set l ⟨b.sz, b.rows.set i (row.take o ++ cs ++ row.drop (o + n))⟩) := by
  constructor
  · rintro ⟨r, H', e, q⟩
    simp only [Fv.storeN] at e
    by_cases hf : H.floor ≤ l
    · rw [if_pos hf] at e
      refine ⟨hf, ?_⟩
      cases hc : v.cells? with
      | none => rw [hc] at e; cases e
      | some cs =>
        simp only [hc, Option.bind_some] at e
        by_cases hn : cs.length = n
        · rw [if_pos hn] at e
          cases hb : H.blk l with
          | none => rw [hb] at e; cases e
          | some b =>
            simp only [hb, Option.bind_some] at e
            cases hr : b.rows[i]? with
            | none => rw [hr] at e; cases e
            | some row =>
              simp only [hr, Option.bind_some, putRow] at e
              by_cases hl : o + cs.length ≤ row.length
              · rw [if_pos hl] at e
                simp only [Option.bind_some] at e
                cases e
                subst hn
                exact ⟨cs, rfl, rfl, b, rfl, row, hr, hl, q⟩
              · rw [if_neg hl] at e; cases e
        · rw [if_neg hn] at e; cases e
    · rw [if_neg hf] at e; cases e
  · rintro ⟨hf, cs, h1, h2, b, h3, row, h4, h5, q⟩
    subst h2
    exact ⟨.undef, _, by simp only [Fv.storeN, if_pos hf, h1, Option.bind_some, if_true, h3, h4, putRow, if_pos h5], q⟩

theorem Run.newI {k : IntKind} {n : Int} {Q : V → Heap → Prop} : Run (newV (.int k n)) H Q ↔ Q (.ptr H.next 0 0) (H.add ⟨1, [[.int k n]]⟩) := Run.eq rfl
theorem Run.newB {b : Bool} {Q : V → Heap → Prop} : Run (newV (.bool b)) H Q ↔ Q (.ptr H.next 0 0) (H.add ⟨1, [[.bool b]]⟩) := Run.eq rfl
theorem nil_ptr {l i o : Nat} : nilCheckV (.ptr l i o) = some (.ptr l i o) := rfl

/-! ### Slices that only are read -/
def Sls (x : V) (sz : Nat) (rows : List (List V)) : Prop := x = .imm sz rows ∨ rows = [] ∧ (x = .nils ∨ x = .emp)
variable {x : V} {sz : Nat} {rows : List (List V)}
theorem Sls.imm (sz : Nat) (rows : List (List V)) : Sls (.imm sz rows) sz rows := .inl rfl
theorem Sls.nils (sz : Nat) : Sls .nils sz [] := .inr ⟨rfl, .inl rfl⟩
theorem Sls.emp (sz : Nat) : Sls .emp sz [] := .inr ⟨rfl, .inr rfl⟩
theorem Sls.len (h : Sls x sz rows) : lenV x = some (.int .i64 (rows.length : Int)) := by
  rcases h with rfl | ⟨rfl, rfl | rfl⟩ <;> rfl
theorem Sls.idx (h : Sls x sz rows) {k : IntKind} {i : Nat} (hi : i < rows.length) : idxV sz x (.int k (i : Int)) = some (.iptr rows[i] 0) := by
  rcases h with rfl | ⟨rfl, _⟩
  · simp [idxV, hi]
  · simp at hi
theorem Sls.idxI (h : Sls x sz rows) {k : IntKind} {i : Int} (h0 : 0 ≤ i) (hi : i < rows.length) : idxV sz x (.int k i) = some (.iptr (rows[i.toNat]'(by omega)) 0) := by
  have e : i = (i.toNat : Int) := by omega
  conv => lhs; rw [e]
  exact h.idx (by omega)
theorem Sls.items (h : Sls x sz rows) (H : Heap) : itemsV sz x H = some rows := by
  rcases h with rfl | ⟨rfl, rfl | rfl⟩ <;> simp [itemsV]
theorem Sls.closed (h : Sls x sz rows) : x.closed = true := by
  rcases h with rfl | ⟨rfl, rfl | rfl⟩ <;> rfl
theorem Sls.closedV (h : Sls x sz rows) : x.closedV = true := by
  rcases h with rfl | ⟨rfl, rfl | rfl⟩ <;> rfl
theorem Sls.cells (h : Sls x sz rows) : x.cells? = some [x] := by
  rcases h with rfl | ⟨rfl, rfl | rfl⟩ <;> rfl

/-! ### Calls -/
theorem Run.out {m : M R} {Q : V → Heap → Prop} : Run (outV m) H Q ↔ Run m H fun r H' => Q (r.2.getD 0 .undef) H' := by
  unfold outV
  rw [Run.bind]
  exact ⟨fun h => h.mono fun _ _ h => Run.ret.1 h, fun h => h.mono fun _ _ h => Run.ret.2 h⟩

/-- What needs no heap, tuples too. -/
def V.closedT : V → Bool
  | .tuple l => l.all V.closedV
  | v => v.closedV
theorem thawV_closedT {v : V} (h : v.closedT = true) (H : Heap) : thawV true H v = some v := by
  cases v with
  | tuple l =>
    have : l.mapM (thaw2 true H) = some l := by
      have h' : l.all V.closedV = true := h
      clear h
      induction l with
      | nil => rfl
      | cons a l ih =>
        simp only [List.all_cons, Bool.and_eq_true] at h'
        have e : thaw2 true H a = some a := by
          have := thawV_closed h'.1 H
          cases a with
          | tuple _ => simp [V.closedV, V.closed, V.flat] at h'
          | _ => exact this
        rw [List.mapM_cons, e, ih h'.2]
        rfl
    simp [thawV, this]
  | _ => exact thawV_closed (by simpa only [V.closedT] using h) H

theorem callV_thaw {C : Cfg} {call : FuncId → List V → M V} {f : FuncId} {args bs : List V} {r : V} {h : Heap} (hk : C.kind f = .pure) (ha : args.mapM (thawV true h) = some bs)
    (hr : Run (call f bs) Heap.empty fun v H' => thawV (args.all V.closedV) H' v = some r) : callV C call f args h = some (r, h) := by
  obtain ⟨v, H', e, q⟩ := hr
  simp only [callV, hk, callP, ha, Option.bind_some, e]
  rw [q]
  rfl
theorem callV_pure {C : Cfg} {call : FuncId → List V → M V} {f : FuncId} {args : List V} {r : V} (hk : C.kind f = .pure) (ha : args.all V.closedV = true)
    (hr : Run (call f args) Heap.empty fun v H' => thawV true H' v = some r) : callV C call f args = M.ret r := by
  funext h
  exact callV_thaw hk (mapM_closedV ha h) (by rw [ha]; exact hr)
theorem callV_pure0 {C : Cfg} {call : FuncId → List V → M V} {f : FuncId} {args : List V} {r : V} (hk : C.kind f = .pure) (ha : args.all V.closedV = true) (hc : r.closedT = true)
    (hr : Run (call f args) Heap.empty fun v _ => v = r) : callV C call f args = M.ret r :=
  callV_pure hk ha (hr.mono fun v H' e => by rw [e]; exact thawV_closedT hc H')
theorem callV_pureE {C : Cfg} {call : FuncId → List V → M V} {f : FuncId} {args : List V} {P : V → Prop} (hk : C.kind f = .pure) (ha : args.all V.closedV = true)
    (hr : Run (call f args) Heap.empty fun v H' => ∃ r, thawV true H' v = some r ∧ P r) : ∃ r, callV C call f args = M.ret r ∧ P r := by
  obtain ⟨v, H', e, r, q, p⟩ := hr
  exact ⟨r, callV_pure hk ha ⟨v, H', e, q⟩, p⟩
theorem callV_inl {C : Cfg} {call : FuncId → List V → M V} {f : FuncId} {args : List V} (hk : C.kind f = .inl) : callV C call f args = call f args := by
  simp only [callV, hk]
theorem callV_own {C : Cfg} {call : FuncId → List V → M V} {f : FuncId} {args bs : List V} {h : Heap} {Q : V → Heap → Prop} (hk : C.kind f = .own) (ha : args.mapM (thawV true h) = some bs)
    (hr : Run (call f bs) Heap.empty fun v H' => ∃ g, giveV H' v = some g ∧ Run (takeV g) h Q) : Run (callV C call f args) h Q := by
  obtain ⟨v, H', e, g, q, r⟩ := hr
  obtain ⟨a, H2, r1, r2⟩ := r
  exact ⟨a, H2, by simp only [callV, hk, callP, ha, Option.bind_some, e, if_true, q, r1], r2⟩

/-- What leads nowhere, tuples too. -/
def V.flat2 : V → Bool
  | .agg l => l.all V.flat
  | v => v.flat
def V.flatT : V → Bool
  | .tuple l => l.all V.flat2
  | v => v.flat2
theorem thaw_flat {H : Heap} {v u : V} (h : thaw true H v = some u) (hu : u.flat = true) : thaw false H v = some u := by
  have gen : ∀ v : V, (if v.flat || (true && v.closed) then some v else none) = some u → (if v.flat || (false && v.closed) then some v else none) = some u := fun v h => by
    split at h
    · injection h with h
      subst h
      simp [hu]
    · cases h
  cases v with
  | ref l z s n c ex =>
    simp only [thaw] at h ⊢
    exact h
  | ptr l i o => simp only [thaw] at h ⊢; exact h
  | iface t v =>
    cases v with
    | ptr l i o => simp only [thaw] at h ⊢; exact h
    | _ => simp only [thaw] at h ⊢; exact gen _ h
  | _ => simp only [thaw] at h ⊢; exact gen _ h
theorem mapM_thaw_flat {H : Heap} : ∀ {l u : List V}, l.mapM (thaw true H) = some u → u.all V.flat = true → l.mapM (thaw false H) = some u
  | [], u, h, _ => by simpa using h
  | a :: l, u, h, hu => by
    rw [List.mapM_cons] at h
    cases ha : thaw true H a with
    | none => rw [ha] at h; cases h
    | some b =>
      cases hl : l.mapM (thaw true H) with
      | none => rw [ha, hl] at h; cases h
      | some bs =>
        rw [ha, hl] at h
        cases h
        simp only [List.all_cons, Bool.and_eq_true] at hu
        rw [List.mapM_cons, thaw_flat ha hu.1, mapM_thaw_flat hl hu.2]
        rfl
theorem thaw_closed' {H : Heap} {v u : V} (h : thaw true H v = some u) : u.closed = true := by
  have gen : ∀ v : V, (if v.flat || (true && v.closed) then some v else none) = some u → u.closed = true := fun v h => by
    split at h
    · rename_i hc
      injection h with h
      subst h
      rw [Bool.true_and, Bool.or_eq_true] at hc
      exact hc.elim V.closed_of_flat id
    · cases h
  cases v with
  | ref l z s n c ex =>
    simp only [thaw] at h
    cases hb : H.blk l with
    | none => rw [hb] at h; cases h
    | some b =>
      rw [hb] at h
      simp only [Option.bind_some] at h
      split at h
      · injection h with h; subst h; rfl
      · cases h
  | ptr l i o =>
    simp only [thaw] at h
    cases hb : H.blk l with
    | none => rw [hb] at h; cases h
    | some b =>
      rw [hb] at h
      simp only [Option.bind_some] at h
      cases hr : b.rows[i]? with
      | none => rw [hr] at h; cases h
      | some r =>
        rw [hr] at h
        simp only [Option.bind_some] at h
        split at h
        · injection h with h; subst h; rfl
        · cases h
  | iface t v =>
    cases v with
    | ptr l i o =>
      simp only [thaw] at h
      cases hb : H.blk l with
      | none => rw [hb] at h; cases h
      | some b =>
        rw [hb] at h
        simp only [Option.bind_some] at h
        cases hr : b.rows[i]? with
        | none => rw [hr] at h; cases h
        | some r =>
          rw [hr] at h
          simp only [Option.bind_some] at h
          split at h
          · injection h with h; subst h; rfl
          · cases h
    | _ => simp only [thaw] at h; exact gen _ h
  | _ => simp only [thaw] at h; exact gen _ h
theorem flat_of2 {u : V} (h : u.closed = true) (hu : u.flat2 = true) : u.flat = true := by
  cases u <;> first | exact hu | simp [V.closed, V.flat] at h
theorem flat_ofT {u : V} (h : u.closed = true) (hu : u.flatT = true) : u.flat = true := by
  cases u <;> first | exact hu | simp [V.closed, V.flat] at h
theorem thaw2_flat {H : Heap} {v u : V} (h : thaw2 true H v = some u) (hu : u.flat2 = true) : thaw2 false H v = some u := by
  cases v with
  | agg l =>
    simp only [thaw2] at h ⊢
    cases hl : l.mapM (thaw true H) with
    | none => rw [hl] at h; cases h
    | some bs =>
      rw [hl] at h
      cases h
      rw [mapM_thaw_flat hl hu]
      rfl
  | _ =>
    simp only [thaw2] at h ⊢
    exact thaw_flat h (flat_of2 (thaw_closed' h) hu)
theorem thawV_flat {H : Heap} {v u : V} (h : thawV true H v = some u) (hu : u.flatT = true) : thawV false H v = some u := by
  cases v with
  | agg l =>
    simp only [thawV] at h ⊢
    cases hl : l.mapM (thaw true H) with
    | none => rw [hl] at h; cases h
    | some bs =>
      rw [hl] at h
      cases h
      rw [mapM_thaw_flat hl hu]
      rfl
  | tuple l =>
    simp only [thawV] at h ⊢
    cases hl : l.mapM (thaw2 true H) with
    | none => rw [hl] at h; cases h
    | some bs =>
      rw [hl] at h
      cases h
      have hu : bs.all V.flat2 = true := hu
      have : l.mapM (thaw2 false H) = some bs := by
        induction l generalizing bs with
        | nil => simpa using hl
        | cons a l ih =>
          rw [List.mapM_cons] at hl
          cases ha : thaw2 true H a with
          | none => rw [ha] at hl; cases hl
          | some b =>
            cases hl2 : l.mapM (thaw2 true H) with
            | none => rw [ha, hl2] at hl; cases hl
            | some bs2 =>
              rw [ha, hl2] at hl
              cases hl
              simp only [List.all_cons, Bool.and_eq_true] at hu
              rw [List.mapM_cons, thaw2_flat ha hu.1, ih bs2 hl2 hu.2 hu.2]
              rfl
      rw [this]
      rfl
  | _ =>
    simp only [thawV] at h ⊢
    exact thaw_flat h (flat_ofT (thaw_closed' h) hu)

theorem callRef {C : Cfg} {call : FuncId → List V → M V} {f : FuncId} {args bs : List V} {r : V} {h : Heap} (hk : C.kind f = .pure) (hm : args.mapM (thawV true h) = some bs) (ha : bs.all V.closedV = true)
    (hs : callV C call f bs = M.ret r) (hr : r.flatT = true) : callV C call f args h = some (r, h) := by
  have e := congrFun hs h
  simp only [callV, hk, callP, mapM_closedV ha, Option.bind_some, ha, Bool.false_eq_true, if_false] at e
  cases hc : call f bs Heap.empty with
  | none => rw [hc] at e; cases e
  | some x =>
    rw [hc] at e
    simp only [Option.bind_some] at e
    cases ht : thawV true x.2 x.1 with
    | none => rw [ht] at e; cases e
    | some u =>
      rw [ht] at e
      have hu : u = r := by
        simp only [Option.bind_some, M.ret] at e
        injection e with e
        exact congrArg Prod.fst e
      subst hu
      simp only [callV, hk, callP, hm, Option.bind_some, hc, Bool.false_eq_true, if_false]
      have : thawV (args.all V.closedV) x.2 x.1 = some u := by
        cases hh : args.all V.closedV with
        | true => exact ht
        | false => exact thawV_flat ht hr
      rw [this]
      rfl
theorem Run.callRef {C : Cfg} {call : FuncId → List V → M V} {f : FuncId} {args bs : List V} {r : V} {Q : V → Heap → Prop} (hk : C.kind f = .pure) (hm : args.mapM (thawV true H) = some bs) (ha : bs.all V.closedV = true)
    (hs : callV C call f bs = M.ret r) (hr : r.flatT = true) : Run (callV C call f args) H Q ↔ Q r H := Run.eq (Fv.callRef hk hm ha hs hr)
theorem Run.qcallRef {C : Cfg} {call : FuncId → List V → M V} {f : FuncId} {args bs : List V} {r : V} {v : Nat → Bool} {Q : V → Heap → Prop} (hk : C.kind f = .pure)
    (hm : args.mapM (thawV true ⟨fun l => if v l then H.blk l else none, H.next, H.next⟩) = some bs) (ha : bs.all V.closedV = true)
    (hs : callV C call f bs = M.ret r) (hr : r.flatT = true) : Run (qrun v (callV C call f args)) H Q ↔ Q r (H.q v) :=
  Run.eq (by simp only [qrun, Fv.callRef hk hm ha hs hr, Option.bind_some]; rfl)
theorem Run.slice {sz n : Nat} {z : List V} {parts : List (Nat × V)} {Q : V → Heap → Prop} : Run (sliceV sz (n + 1) z parts) H Q ↔ ∃ rows, fillRows sz (List.replicate (n + 1) z) parts = some rows ∧ Q (.ref H.next sz 0 rows.length rows.length true) (H.add ⟨sz, rows⟩) := by
  cases hf : fillRows sz (List.replicate (n + 1) z) parts with
  | none => exact ⟨fun ⟨_, _, e, _⟩ => by simp [sliceV, hf] at e, fun ⟨_, e, _⟩ => (by cases e)⟩
  | some rows => exact (Run.eq (by simp only [sliceV, hf, Option.bind_some]; rfl)).trans ⟨fun q => ⟨rows, rfl, q⟩, fun ⟨_, e, q⟩ => (by cases e; exact q)⟩

/-! ### Loops -/
/-- What one round ends in: it goes on, or it is over. -/
def Stp (N : List V → Heap → Prop) (Q : R → Heap → Prop) (r : R) (H : Heap) : Prop :=
  match r.1 with
  | .normal => N r.2 H
  | _ => Q r H
theorem Stp.normal {N : List V → Heap → Prop} {Q : R → Heap → Prop} {s : List V} : Stp N Q (Ex.normal, s) H ↔ N s H := Iff.rfl
theorem Stp.exit {N : List V → Heap → Prop} {Q : R → Heap → Prop} {j : Nat} {s : List V} : Stp N Q (Ex.exit j, s) H ↔ Q (Ex.exit j, s) H := Iff.rfl
theorem Stp.ret {N : List V → Heap → Prop} {Q : R → Heap → Prop} {s : List V} : Stp N Q (Ex.ret, s) H ↔ Q (Ex.ret, s) H := Iff.rfl

/-- A loop that counts rounds: at most so many. -/
theorem Run.loop {F : List V → M R} {N : Nat} (S : Nat → List V → Heap → Prop) {Q : R → Heap → Prop} {s0 : List V} {H0 : Heap} (h0 : S 0 s0 H0)
    (step : ∀ i s H, i ≤ N → S i s H → Run (F s) H (Stp (fun s' H' => i < N ∧ S (i + 1) s' H') Q)) : Run (loopV F s0) H0 Q := by
  have main : ∀ k i s H, i + k = N → S i s H → Run (loopV F s) H Q := by
    intro k
    induction k with
    | zero =>
      intro i s H hi hs
      obtain ⟨⟨e, s'⟩, H', h, q⟩ := step i s H (by omega) hs
      cases e with
      | normal => exact absurd q.1 (by omega)
      | exit j => exact ⟨_, _, loopV_exit h, q⟩
      | ret => exact ⟨_, _, loopV_ret h, q⟩
    | succ k ih =>
      intro i s H hi hs
      obtain ⟨⟨e, s'⟩, H', h, q⟩ := step i s H (by omega) hs
      cases e with
      | normal =>
        obtain ⟨r, H2, e2, q2⟩ := ih (i + 1) s' H' (by omega) q.2
        exact ⟨r, H2, by rw [loopV_next h]; exact e2, q2⟩
      | exit j => exact ⟨_, _, loopV_exit h, q⟩
      | ret => exact ⟨_, _, loopV_ret h, q⟩
  exact main N 0 s0 H0 (by omega) h0
end
/-! ### All that a walk uses at each step -/
theorem wp : type_of% @Run.bind ∧ type_of% @Run.ret ∧ type_of% @Run.lift ∧ type_of% @condT ∧ type_of% @condF ∧ type_of% @condN ∧ type_of% @guardTT ∧ type_of% @guardFT ∧ type_of% @guardTF ∧ type_of% @guardFF ∧ type_of% @guardS ∧ type_of% @guardNT ∧ type_of% @guardNF ∧ type_of% @Run.fail ∧ type_of% @Run.getN ∧ type_of% @Run.guardM ∧ type_of% @Run.qret ∧ type_of% @Run.newA ∧ type_of% @Run.newI ∧ type_of% @Run.newB ∧ type_of% @nil_ptr ∧ type_of% @Run.load1i ∧ type_of% @Run.load1p ∧ type_of% @Run.loadNi ∧ type_of% @Run.loadNp ∧ type_of% @Run.storeN ∧ type_of% @Run.out ∧ type_of% @Stp.normal ∧ type_of% @Stp.exit ∧ type_of% @Stp.ret ∧ type_of% @Heap.add_blk ∧ type_of% @Heap.add_next ∧ type_of% @Heap.add_floor ∧ type_of% @Heap.set_blk ∧ type_of% @Heap.set_next ∧ type_of% @Heap.set_floor ∧ type_of% @Heap.q_blk ∧ type_of% @Heap.q_next ∧ type_of% @Heap.q_floor ∧ type_of% @Heap.empty_next ∧ type_of% @Heap.empty_floor ∧ type_of% @padd_ptr ∧ type_of% @padd_iptr ∧ type_of% @arith_lss ∧ type_of% @arith_leq ∧ type_of% @arith_gtr ∧ type_of% @arith_geq ∧ type_of% @eq_int ∧ type_of% @eq_bool ∧ type_of% @eq_str ∧ type_of% @eq_nili ∧ type_of% @eq_ifnil ∧ type_of% @eq_nilif ∧ type_of% @pick_and ∧ type_of% @pick_or ∧ type_of% @pick_t ∧ type_of% @pick_f ∧ type_of% @un_not ∧ type_of% @cells_agg ∧ type_of% @cells_int ∧ type_of% @cells_bool ∧ type_of% @cells_str ∧ type_of% @cells_nils ∧ type_of% @cells_emp ∧ type_of% @cells_imm ∧ type_of% @cells_ref ∧ type_of% @cells_nili ∧ type_of% @cells_iface ∧ type_of% @cells_ptr ∧ type_of% @cells_nilp ∧ type_of% @cells_fn ∧ type_of% @Option.bind_some.{0, 0} ∧ type_of% @Option.some.injEq.{0} ∧ type_of% @List.getD_cons_zero.{0} ∧ type_of% @List.getD_cons_succ.{0} ∧ type_of% @List.getElem?_cons_zero.{0} ∧ type_of% @List.getElem?_cons_succ.{0} ∧ type_of% @List.length_cons.{0} ∧ type_of% @List.length_nil.{0} ∧ type_of% @List.set_cons_zero.{0} ∧ type_of% @List.take_zero.{0} ∧ type_of% @List.drop_zero.{0} ∧ type_of% @List.nil_append.{0} ∧ type_of% @Nat.zero_add ∧ type_of% @Nat.add_zero ∧ type_of% @Bool.true_and ∧ type_of% @Bool.false_and ∧ type_of% @Bool.and_true ∧ type_of% @Bool.and_false ∧ type_of% @Bool.true_or ∧ type_of% @Bool.false_or ∧ type_of% @Bool.or_true ∧ type_of% @Bool.or_false ∧ type_of% @true_and ∧ type_of% @and_true ∧ type_of% @Nat.le_refl ∧ type_of% @Nat.zero_le ∧ type_of% @List.drop_succ_cons.{0} ∧ type_of% @List.take_succ_cons.{0} ∧ type_of% @List.take_nil.{0} ∧ type_of% @List.drop_nil.{0} ∧ type_of% @List.append_nil.{0} ∧ type_of% @List.cons_append.{0} ∧ type_of% @Nat.lt_add_one ∧ type_of% @Nat.lt_irrefl ∧ type_of% @Nat.mul_one ∧ type_of% @Bool.not_true ∧ type_of% @Bool.not_false ∧ type_of% @Nat.zero_lt_succ :=
  ⟨@Run.bind, @Run.ret, @Run.lift, @condT, @condF, @condN, @guardTT, @guardFT, @guardTF, @guardFF, @guardS, @guardNT, @guardNF, @Run.fail, @Run.getN, @Run.guardM, @Run.qret, @Run.newA, @Run.newI, @Run.newB, @nil_ptr, @Run.load1i, @Run.load1p, @Run.loadNi, @Run.loadNp, @Run.storeN, @Run.out, @Stp.normal, @Stp.exit, @Stp.ret, @Heap.add_blk, @Heap.add_next, @Heap.add_floor, @Heap.set_blk, @Heap.set_next, @Heap.set_floor, @Heap.q_blk, @Heap.q_next, @Heap.q_floor, @Heap.empty_next, @Heap.empty_floor, @padd_ptr, @padd_iptr, @arith_lss, @arith_leq, @arith_gtr, @arith_geq, @eq_int, @eq_bool, @eq_str, @eq_nili, @eq_ifnil, @eq_nilif, @pick_and, @pick_or, @pick_t, @pick_f, @un_not, @cells_agg, @cells_int, @cells_bool, @cells_str, @cells_nils, @cells_emp, @cells_imm, @cells_ref, @cells_nili, @cells_iface, @cells_ptr, @cells_nilp, @cells_fn, @Option.bind_some.{0, 0}, @Option.some.injEq.{0}, @List.getD_cons_zero.{0}, @List.getD_cons_succ.{0}, @List.getElem?_cons_zero.{0}, @List.getElem?_cons_succ.{0}, @List.length_cons.{0}, @List.length_nil.{0}, @List.set_cons_zero.{0}, @List.take_zero.{0}, @List.drop_zero.{0}, @List.nil_append.{0}, @Nat.zero_add, @Nat.add_zero, @Bool.true_and, @Bool.false_and, @Bool.and_true, @Bool.and_false, @Bool.true_or, @Bool.false_or, @Bool.or_true, @Bool.or_false, @true_and, @and_true, @Nat.le_refl, @Nat.zero_le, @List.drop_succ_cons.{0}, @List.take_succ_cons.{0}, @List.take_nil.{0}, @List.drop_nil.{0}, @List.append_nil.{0}, @List.cons_append.{0}, @Nat.lt_add_one, @Nat.lt_irrefl, @Nat.mul_one, @Bool.not_true, @Bool.not_false, @Nat.zero_lt_succ⟩
end Go.Fv

/-! Slices with memory of the call's own. -/
namespace Go.Fv
open Go

section
variable {H H' H'' : Heap} {x y : V} {sz : Nat} {rows items : List (List V)}

/-- What has changed between two heaps: old blocks only where 'p' says. -/
structure Frame (H H' : Heap) (p : Nat → Prop) : Prop where
  next : H.next ≤ H'.next
  floor : H'.floor = H.floor
  old : ∀ l, l < H.next → ¬ p l → H'.blk l = H.blk l
theorem Frame.refl (H : Heap) (p : Nat → Prop) : Frame H H p := ⟨Nat.le_refl _, rfl, fun _ _ _ => rfl⟩
theorem Frame.trans {p q r : Nat → Prop} (a : Frame H H' p) (b : Frame H' H'' q) (hp : ∀ l, l < H.next → p l → r l) (hq : ∀ l, l < H.next → q l → r l) : Frame H H'' r :=
  ⟨Nat.le_trans a.next b.next, b.floor.trans a.floor, fun l hl hr => (b.old l (Nat.lt_of_lt_of_le hl a.next) fun h => hr (hq l hl h)).trans (a.old l hl fun h => hr (hp l hl h))⟩
theorem Frame.mono {p q : Nat → Prop} (a : Frame H H' p) (hp : ∀ l, l < H.next → p l → q l) : Frame H H' q := ⟨a.next, a.floor, fun l hl hq => a.old l hl fun h => hq (hp l hl h)⟩
theorem Frame.add (b : Blk) (p : Nat → Prop) : Frame H (H.add b) p := ⟨Nat.le_succ _, rfl, fun _ hl _ => Heap.add_old hl⟩
theorem Frame.q (v : Nat → Bool) (p : Nat → Prop) : Frame H (H.q v) p := ⟨Nat.le_refl _, rfl, fun l hl _ => if_pos hl⟩
theorem Frame.set (b : Blk) (l : Nat) {p : Nat → Prop} (hp : p l) : Frame H (H.set l b) p := ⟨Nat.le_refl _, rfl, fun x _ h => if_neg fun (e : x = l) => h (e ▸ hp)⟩

def loc : V → Option Nat
  | .ref l _ _ _ _ _ => some l
  | _ => none

/-- A slice with memory of the call's own, and what it shows. -/
def Own (H : Heap) (x : V) (sz : Nat) (rows : List (List V)) : Prop :=
  (x = .nils ∨ x = .emp) ∧ rows = [] ∨ ∃ l n c ex b, x = .ref l sz 0 n c ex ∧ H.blk l = some b ∧ H.floor ≤ l ∧ l < H.next ∧ n ≤ c ∧ c ≤ b.rows.length ∧ b.rows.take n = rows

theorem Own.nils (H : Heap) (sz : Nat) : Own H .nils sz [] := .inl ⟨.inl rfl, rfl⟩
theorem Own.emp (H : Heap) (sz : Nat) : Own H .emp sz [] := .inl ⟨.inr rfl, rfl⟩
theorem Own.frame {p : Nat → Prop} (h : Own H x sz rows) (f : Frame H H' p) (hp : ∀ l, loc x = some l → ¬ p l) : Own H' x sz rows := by
  rcases h with h | ⟨l, n, c, ex, b, rfl, h1, h2, h3, h4⟩
  · exact .inl h
  · exact .inr ⟨l, n, c, ex, b, rfl, (f.old l h3 (hp l rfl)).trans h1, by rw [f.floor]; exact h2, Nat.lt_of_lt_of_le h3 f.next, h4⟩
theorem Own.lt (h : Own H x sz rows) {l : Nat} (hl : loc x = some l) : l < H.next := by
  rcases h with ⟨rfl | rfl, _⟩ | ⟨l', n, c, ex, b, rfl, h1, h2, h3, h4⟩
  · cases hl
  · cases hl
  · cases hl; exact h3
theorem Own.len (h : Own H x sz rows) : lenV x = some (.int .i64 (rows.length : Int)) := by
  rcases h with ⟨rfl | rfl, rfl⟩ | ⟨l, n, c, ex, b, rfl, h1, h2, h3, h4, h5, rfl⟩
  · rfl
  · rfl
  · have : min n b.rows.length = n := by omega
    simp [lenV, this]
theorem Own.shows (h : Own H x sz rows) : itemsV sz x H = some rows := by
  rcases h with ⟨rfl | rfl, rfl⟩ | ⟨l, n, c, ex, b, rfl, h1, h2, h3, h4, h5, rfl⟩
  · rfl
  · rfl
  · have : n ≤ b.rows.length := by omega
    simp [itemsV, h1, this]
theorem Own.cells (h : Own H x sz rows) : x.cells? = some [x] := by
  rcases h with ⟨rfl | rfl, rfl⟩ | ⟨l, n, c, ex, b, rfl, h⟩ <;> rfl

theorem Own.new (hH : H.floor ≤ H.next) (rows : List (List V)) (ex : Bool) : Own (H.add ⟨sz, rows⟩) (.ref H.next sz 0 rows.length rows.length ex) sz rows :=
  .inr ⟨H.next, rows.length, rows.length, ex, _, rfl, Heap.add_new _, hH, Nat.lt_succ_self _, Nat.le_refl _, Nat.le_refl _, List.take_length⟩

theorem appR_nil (bytes : Nat) (h : Own H x sz rows) : appR sz bytes x [] H = some (x, H) := by
  rcases h with ⟨rfl | rfl, rfl⟩ | ⟨l, n, c, ex, b, rfl, h⟩ <;> rfl

theorem Run.appR {bytes : Nat} (hH : H.floor ≤ H.next) (hx : Own H x sz rows) (hroom : (rows.length + items.length) * bytes ≤ room) :
    Run (Fv.appR sz bytes x items) H fun x' H' => Own H' x' sz (rows ++ items) ∧ Frame H H' (fun l => loc x = some l) ∧ (∀ l, loc x' = some l → loc x = some l ∨ H.next ≤ l) := by
  cases items with
  | nil => exact Run.of (appR_nil bytes hx) ⟨by rw [List.append_nil]; exact hx, Frame.refl _ _, fun l h => .inl h⟩
  | cons i is =>
    rcases hx with ⟨hx, rfl⟩ | ⟨l, n, c, ex, b, rfl, h1, h2, h3, h4, h5, rfl⟩
    · have e : Fv.appR sz bytes x (i :: is) H = some (.ref H.next sz 0 (i :: is).length (i :: is).length false, H.add ⟨sz, i :: is⟩) := by
        have hr : (i :: is).length * bytes ≤ room := by simpa using hroom
        rcases hx with rfl | rfl
        · simp only [Fv.appR, if_pos hr]; rfl
        · simp only [Fv.appR, if_pos hr]; rfl
      exact Run.of e ⟨Own.new hH _ _, Frame.add _ _, fun l h => .inr (by cases h; exact Nat.le_refl _)⟩
    · have hn : n ≤ b.rows.length := by omega
      have hlen : (b.rows.take n).length = n := by rw [List.length_take]; omega
      rw [hlen] at hroom
      by_cases hc : n + (i :: is).length ≤ c
      · have e : Fv.appR sz bytes (.ref l sz 0 n c ex) (i :: is) H = some (.ref l sz 0 (n + (i :: is).length) c ex, H.set l ⟨b.sz, b.rows.take n ++ (i :: is) ++ b.rows.drop (n + (i :: is).length)⟩) := by
          simp only [Fv.appR, if_true, h1, Option.bind_some, Nat.zero_add, if_pos hn, if_pos hc, if_pos h2]
        refine Run.of e ⟨.inr ⟨l, _, c, ex, _, rfl, by rw [Heap.set_blk, if_pos rfl], h2, h3, hc, ?_, ?_⟩, Frame.set _ _ rfl, fun l' h => .inl h⟩
        · simp only [List.length_append, List.length_take, List.length_drop]; omega
        · rw [List.take_append_of_le_length (by rw [List.length_append, hlen]; exact Nat.le_refl _), List.take_of_length_le (by rw [List.length_append, hlen]; exact Nat.le_refl _)]
      · have hr : Run (newRows sz (b.rows.take n ++ (i :: is)) false) (if ex then H else H.kill l) fun x' H' => Own H' x' sz (b.rows.take n ++ (i :: is)) ∧ Frame H H' (fun k => loc (.ref l sz 0 n c ex) = some k) ∧ (∀ k, loc x' = some k → loc (.ref l sz 0 n c ex) = some k ∨ H.next ≤ k) := by
          cases ex with
          | true => exact Run.of rfl ⟨Own.new hH _ _, Frame.add _ _, fun k h => .inr (by cases h; exact Nat.le_refl _)⟩
          | false =>
            refine Run.of rfl ⟨Own.new (H := H.kill l) hH _ _, ⟨Nat.le_succ _, rfl, fun k hk hn => ?_⟩, fun k h => .inr (by cases h; exact Nat.le_refl _)⟩
            rw [if_neg Bool.false_ne_true, Heap.add_old (by exact hk), Heap.kill_blk, if_neg fun e => hn (by rw [e]; rfl)]
        obtain ⟨r, H2, e2, q⟩ := hr
        refine ⟨r, H2, ?_, q⟩
        simp only [Fv.appR, if_true, h1, Option.bind_some, Nat.zero_add, if_pos hn, if_neg hc, if_pos hroom, List.drop_zero]
        cases ex with
        | true => rw [if_pos rfl] at e2 ⊢; exact e2
        | false => rw [if_neg Bool.false_ne_true] at e2 ⊢; rw [if_pos h2]; exact e2

theorem Run.app {bytes : Nat} (hH : H.floor ≤ H.next) (hx : Own H x sz rows) (hy : itemsV sz y H = some items) (hroom : (rows.length + items.length) * bytes ≤ room) :
    Run (Fv.appV sz bytes x y) H fun x' H' => Own H' x' sz (rows ++ items) ∧ Frame H H' (fun l => loc x = some l) ∧ (∀ l, loc x' = some l → loc x = some l ∨ H.next ≤ l) := by
  obtain ⟨r, H2, e, q⟩ := Run.appR (bytes := bytes) hH hx (items := items) hroom
  exact ⟨r, H2, by simp only [Fv.appV, hy, Option.bind_some]; exact e, q⟩

/-! ### What is handed over -/
/-- Fresh memory on its way. -/
def Gv (g : V) (sz : Nat) (rows : List (List V)) : Prop := (g = .nils ∨ g = .emp) ∧ rows = [] ∨ g = .own sz rows

theorem Own.give (h : Own H x sz rows) (hf : flatRows rows = true) {ls : List Nat} (hls : ∀ l, loc x = some l → l ∉ ls) :
    ∃ g, give H x ls = some (g, (loc x).toList ++ ls) ∧ Gv g sz rows := by
  rcases h with ⟨rfl | rfl, rfl⟩ | ⟨l, n, c, ex, b, rfl, h1, h2, h3, h4, h5, rfl⟩
  · exact ⟨.nils, rfl, .inl ⟨.inl rfl, rfl⟩⟩
  · exact ⟨.emp, rfl, .inl ⟨.inr rfl, rfl⟩⟩
  · refine ⟨.own sz (b.rows.take n), ?_, .inr rfl⟩
    have : n ≤ b.rows.length := by omega
    simp [Fv.give, h1, this, hf, hls l rfl, loc]
theorem Own.thaw (h : Own H x sz rows) (hf : flatRows rows = true) (ok : Bool) : ∃ y, thaw ok H x = some y ∧ Sls y sz rows := by
  rcases h with ⟨rfl | rfl, rfl⟩ | ⟨l, n, c, ex, b, rfl, h1, h2, h3, h4, h5, rfl⟩
  · exact ⟨.nils, rfl, Sls.nils _⟩
  · exact ⟨.emp, rfl, Sls.emp _⟩
  · refine ⟨.imm sz (b.rows.take n), ?_, Sls.imm _ _⟩
    have : n ≤ b.rows.length := by omega
    simp [Fv.thaw, h1, this, hf]
theorem Gv.take (h : Gv x sz rows) (hH : H.floor ≤ H.next) : Run (take1 x) H fun x' H' => Own H' x' sz rows ∧ Frame H H' (fun _ => False) ∧ (∀ l, loc x' = some l → H.next ≤ l) := by
  rcases h with ⟨rfl | rfl, rfl⟩ | rfl
  · exact Run.of rfl ⟨Own.nils _ _, Frame.refl _ _, fun l h => by cases h⟩
  · exact Run.of rfl ⟨Own.emp _ _, Frame.refl _ _, fun l h => by cases h⟩
  · exact Run.of rfl ⟨Own.new hH _ _, Frame.add _ _, fun l h => by cases h; exact Nat.le_refl _⟩

theorem Own.hand (h : Own H' x sz rows) (hf : flatRows rows = true) (hH : H.floor ≤ H.next) :
    ∃ g, giveV H' x = some g ∧ Run (takeV g) H fun y H'' => Own H'' y sz rows ∧ Frame H H'' (fun _ => False) ∧ ∀ l, loc y = some l → H.next ≤ l := by
  obtain ⟨g, h1, h2⟩ := h.give hf (ls := []) (fun _ _ => by simp)
  refine ⟨g, ?_, ?_⟩
  · rcases h with ⟨rfl | rfl, rfl⟩ | ⟨l, n, c, ex, b, rfl, _⟩ <;> simp only [giveV, give2, h1, Option.bind_some]
  · have : takeV g = take1 g := by
      rcases h2 with ⟨rfl | rfl, rfl⟩ | rfl <;> rfl
    rw [this]
    exact h2.take hH

theorem Run.qrunI {v : Nat → Bool} {m : M V} {Q : V → Heap → Prop} (h : Run m ⟨fun l => if v l then H.blk l else none, H.next, H.next⟩ fun r H' => Q r ⟨fun l => if l < H.next then H.blk l else H'.blk l, H'.next, H.floor⟩) : Run (qrun v m) H Q := by
  obtain ⟨r, H', e, q⟩ := h
  exact ⟨r, _, by simp only [qrun, e, Option.bind_some], q⟩
/-- A call that is shown a part of the heap and hands back new memory. -/
theorem Own.merge {K : Heap} (h : Own H' x sz rows) (f : Frame K H' (fun _ => False)) (hK : K.next = H.next) (hl : ∀ l, loc x = some l → H.next ≤ l) (hH : H.floor ≤ H.next) :
    Own ⟨fun l => if l < H.next then H.blk l else H'.blk l, H'.next, H.floor⟩ x sz rows := by
  rcases h with h | ⟨l, n, c, ex, b, rfl, h1, h2, h3, h4⟩
  · exact .inl h
  · have := hl l rfl
    exact .inr ⟨l, n, c, ex, b, rfl, by simp only [if_neg (Nat.not_lt.2 this)]; exact h1, by show H.floor ≤ l; omega, h3, h4⟩
theorem Frame.merge {K : Heap} (f : Frame K H' (fun _ => False)) (hK : K.next = H.next) (p : Nat → Prop) : Frame H ⟨fun l => if l < H.next then H.blk l else H'.blk l, H'.next, H.floor⟩ p :=
  ⟨by show H.next ≤ H'.next; rw [← hK]; exact f.next, rfl, fun l hl _ => if_pos hl⟩
theorem Run.qfresh {v : Nat → Bool} {m : M V} {Q : V → Heap → Prop} (hH : H.floor ≤ H.next)
    (h : ∀ K : Heap, K.next = H.next → K.floor ≤ K.next → Run m K fun y K' => Own K' y sz rows ∧ Frame K K' (fun _ => False) ∧ ∀ l, loc y = some l → K.next ≤ l)
    (q : ∀ y H', Own H' y sz rows → Frame H H' (fun _ => False) → (∀ l, loc y = some l → H.next ≤ l) → Q y H') : Run (qrun v m) H Q := by
  refine Run.qrunI ((h ⟨fun l => if v l then H.blk l else none, H.next, H.next⟩ rfl (Nat.le_refl _)).mono fun y K' ⟨o, f, hl⟩ => q _ _ (Own.merge (H := H) o f rfl hl hH) (Frame.merge (H := H) f rfl _) hl)

/-- A step that may change what it sees: the heap behind it. -/
def Heap.t (H : Heap) (v : Nat → Bool) (K' : Heap) : Heap := ⟨fun l => if l < H.next then (if v l && decide (H.floor ≤ l) && (H.blk l).isSome then K'.blk l else H.blk l) else K'.blk l, K'.next, H.floor⟩
theorem Run.trunI {v : Nat → Bool} {m : M V} {Q : V → Heap → Prop} (h : Run m ⟨fun l => if v l then H.blk l else none, H.next, H.floor⟩ fun r K' => Q r (H.t v K')) : Run (trun v m) H Q := by
  obtain ⟨r, H', e, q⟩ := h
  exact ⟨r, _, by simp only [trun, e, Option.bind_some]; rfl, q⟩
theorem Own.mask {v : Nat → Bool} (h : Own H x sz rows) (hv : ∀ l, loc x = some l → v l = true) (f : Nat) (hf : ∀ l, loc x = some l → f ≤ l) : Own ⟨fun l => if v l then H.blk l else none, H.next, f⟩ x sz rows := by
  rcases h with h | ⟨l, n, c, ex, b, rfl, h1, h2, h3, h4⟩
  · exact .inl h
  · exact .inr ⟨l, n, c, ex, b, rfl, by simp only [hv l rfl, if_true]; exact h1, hf l rfl, h3, h4⟩
theorem Frame.t {v : Nat → Bool} {p : Nat → Prop} {K' : Heap} (f : Frame ⟨fun l => if v l then H.blk l else none, H.next, H.floor⟩ K' p) : Frame H (H.t v K') p :=
  ⟨f.next, rfl, fun l hl hp => by
    have := f.old l hl hp
    simp only [Heap.t, if_pos hl]
    split
    · rename_i hc
      simp only [Bool.and_eq_true] at hc
      rw [this]
      simp only [hc.1.1, if_true]
    · rfl⟩
theorem Own.t {v : Nat → Bool} {K' : Heap} {y : V} {rows' : List (List V)} (hy : Own K' y sz rows') (hH : H.floor ≤ H.next)
    (hl : ∀ l, loc y = some l → (v l = true ∧ H.floor ≤ l ∧ ∃ b, H.blk l = some b) ∨ H.next ≤ l) : Own (H.t v K') y sz rows' := by
  rcases hy with h | ⟨l, n, c, ex, b, rfl, h1, h2, h3, h4⟩
  · exact .inl h
  · refine .inr ⟨l, n, c, ex, b, rfl, ?_, ?_, h3, h4⟩
    · simp only [Heap.t]
      rcases hl l rfl with ⟨q1, q2, b', q3⟩ | q
      · by_cases hlt : l < H.next
        · rw [if_pos hlt, q1, decide_eq_true q2, q3]; exact h1
        · rw [if_neg hlt]; exact h1
      · rw [if_neg (by omega)]; exact h1
    · show H.floor ≤ l
      rcases hl l rfl with ⟨_, q2, _⟩ | q
      · exact q2
      · omega
theorem Run.tapp {v : Nat → Bool} {bytes : Nat} (hH : H.floor ≤ H.next) (hx : Own H x sz rows) (hv : ∀ l, loc x = some l → v l = true)
    (hy : itemsV sz y ⟨fun l => if v l then H.blk l else none, H.next, H.floor⟩ = some items) (hroom : (rows.length + items.length) * bytes ≤ room) :
    Run (trun v (Fv.appV sz bytes x y)) H fun x' H' => Own H' x' sz (rows ++ items) ∧ Frame H H' (fun l => loc x = some l) ∧ (∀ l, loc x' = some l → loc x = some l ∨ H.next ≤ l) := by
  have hfl : ∀ l, loc x = some l → H.floor ≤ l ∧ ∃ b, H.blk l = some b := fun l hl => by
    rcases hx with ⟨rfl | rfl, _⟩ | ⟨l', n, c, ex, b, rfl, h1, h2, h3, h4⟩
    · cases hl
    · cases hl
    · cases hl; exact ⟨h2, b, h1⟩
  refine Run.trunI ((Run.app (H := ⟨fun l => if v l then H.blk l else none, H.next, H.floor⟩) hH (hx.mask hv H.floor fun l hl => (hfl l hl).1) hy hroom).mono fun x' K' ⟨o, f, hl⟩ => ⟨?_, f.t, hl⟩)
  exact o.t hH fun l h => (hl l h).imp (fun h => ⟨hv l h, hfl l h⟩) id

theorem Own.idx (h : Own H x sz rows) {k : IntKind} {i : Nat} (hi : i < rows.length) : ∃ l b, loc x = some l ∧ idxV sz x (.int k (i : Int)) = some (.ptr l i 0) ∧ H.blk l = some b ∧ b.rows[i]? = some rows[i] ∧ H.floor ≤ l := by
  rcases h with ⟨_, rfl⟩ | ⟨l, n, c, ex, b, rfl, h1, h2, h3, h4, h5, rfl⟩
  · simp at hi
  · have hn : i < n := by rw [List.length_take] at hi; omega
    refine ⟨l, b, rfl, by simp [idxV, hn], h1, ?_, h2⟩
    rw [List.getElem_take]
    exact List.getElem?_eq_getElem _
theorem Run.slice0 {z : List V} {Q : V → Heap → Prop} : Run (sliceV sz 0 z []) H Q ↔ Q .emp H := Run.eq rfl
end
end Go.Fv

/-! From what a type's cells look like to plain data. -/
namespace Go.Fv
open Go

section
variable {P : Program} {n : Nat} {t e : TypeId} {vs : List V}
theorem sh_int {k : IntKind} (hu : P.underlying t = some (.int k)) (h : Sh P (n + 1) t vs) : ∃ m, (Lit.int k m).wf = true ∧ vs = [.int k m] := by
  simp only [Sh, hu] at h; exact h
theorem sh_bool (hu : P.underlying t = some .bool) (h : Sh P (n + 1) t vs) : ∃ b, vs = [.bool b] := by
  simp only [Sh, hu] at h; exact h
theorem sh_str (hu : P.underlying t = some .string) (h : Sh P (n + 1) t vs) : ∃ s : ByteArray, s.size ≤ reachBytes ∧ vs = [.str s] := by
  simp only [Sh, hu] at h; exact h
theorem sh_slice (hu : P.underlying t = some (.slice e)) (h : Sh P (n + 1) t vs) : ∃ x rows, vs = [x] ∧ Sls x (P.cellsOf e) rows ∧ rows.length ≤ maxLen ∧ rows.length * P.bytesOf e ≤ reachBytes ∧ ∀ r ∈ rows, Sh P n e r := by
  simp only [Sh, hu] at h
  rcases h with rfl | ⟨rows, rfl, h1, h2⟩
  · exact ⟨.nils, [], rfl, Sls.nils _, by simp, by simp, by simp⟩
  · exact ⟨_, rows, rfl, Sls.imm _ _, h1.1, h1.2, h2⟩
theorem sh_struct {fs : Array Field} (hu : P.underlying t = some (.struct fs)) (h : Sh P (n + 1) t vs) : vs.length = P.cellsOf t ∧ ∀ f ∈ fs.toList, Sh P n f.type ((vs.drop f.offset).take (P.cellsOf f.type)) := by
  simp only [Sh, hu] at h; exact h
theorem sh_array {k : Nat} (hu : P.underlying t = some (.array k e)) (h : Sh P (n + 1) t vs) : vs.length = P.cellsOf t ∧ ∀ i, i < k → Sh P n e ((vs.drop (i * P.cellsOf e)).take (P.cellsOf e)) := by
  simp only [Sh, hu] at h; exact h

theorem choose_map {α β : Type} {f : α → β} {W : α → Prop} : ∀ {l : List β}, (∀ r ∈ l, ∃ p, r = f p ∧ W p) → ∃ ps : List α, l = ps.map f ∧ ∀ p ∈ ps, W p
  | [], _ => ⟨[], rfl, by simp⟩
  | r :: l, h => by
    obtain ⟨p, rfl, hp⟩ := h r (by simp)
    obtain ⟨ps, rfl, hps⟩ := choose_map (l := l) fun r hr => h r (by simp [hr])
    exact ⟨p :: ps, rfl, by simpa using ⟨hp, hps⟩⟩
/-- An array of numbers. -/
theorem sh_ints {k : Nat} {kk : IntKind} (hu : P.underlying t = some (.array k e)) (he : P.underlying e = some (.int kk)) (hc : P.cellsOf e = 1) (hk : P.cellsOf t = k) (h : Sh P (n + 2) t vs) :
    ∃ l : List Int, l.length = k ∧ vs = l.map (fun m => V.int kk m) ∧ ∀ m ∈ l, (Lit.int kk m).wf = true := by
  obtain ⟨h1, h2⟩ := sh_array hu h
  have each : ∀ v ∈ vs, ∃ m, v = V.int kk m ∧ (Lit.int kk m).wf = true := fun v hv => by
    obtain ⟨i, hi, rfl⟩ := List.getElem_of_mem hv
    obtain ⟨m, hm, e⟩ := sh_int he (h2 i (by omega))
    rw [hc, Nat.mul_one, List.drop_eq_getElem_cons hi, List.take_succ_cons, List.take_zero] at e
    exact ⟨m, (List.cons.inj e).1, hm⟩
  obtain ⟨l, rfl, hl⟩ := choose_map each
  exact ⟨l, by simpa [hk] using h1, rfl, hl⟩
theorem len3 {α : Type} {l : List α} (h : l.length = 3) : ∃ a b c, l = [a, b, c] := by
  match l, h with
  | [a, b, c], _ => exact ⟨a, b, c, rfl⟩
theorem len2 {α : Type} {l : List α} (h : l.length = 2) : ∃ a b, l = [a, b] := by
  match l, h with
  | [a, b], _ => exact ⟨a, b, rfl⟩
end
end Go.Fv
