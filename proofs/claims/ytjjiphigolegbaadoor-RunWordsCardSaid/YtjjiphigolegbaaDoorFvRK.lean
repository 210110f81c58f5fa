/-
  Itoa by the library's contract, and the table that it reads, as the law's row lists it. By an AI agent; no person has read it.
-/
import Derived.Test.YtjjiphigolegbaaDoorFvW6
import Derived.Test.YtjjiphigolegbaaDoorFvW8
import Derived.Shelf.Strconv.Itoa3
import Derived.Lib.LaidTab
set_option linter.unusedVariables false
set_option linter.unusedSimpArgs false
set_option linter.unusedSectionVars false
/-! Itoa by the library's contract, and the table that it reads, as the law's row lists it. -/
namespace Go.Proofs.YtjjiphigolegbaaDoor
open Go Go.Fv Go.Fv.Tr Go.ChangeShapes Go.WideShapes Go.RowKit Go.Shelf

def renI : Ren :=
{
  f := fun x =>
    match x with
    | 243 => 124
    | 246 => 145
    | 283 => 154
    | 284 => 155
    | 285 => 156
    | 286 => 157
    | 129 => 143
    | 317 => 159
    | 318 => 160
    | 319 => 161
    | 320 => 162
    | 337 => 163
    | 338 => 164
    | n => n,
  t := fun x =>
    match x with
    | 3 => 3
    | 9 => 9
    | 2 => 2
    | 4 => 4
    | 171 => 240
    | 0 => 0
    | 53 => 107
    | 37 => 133
    | 5 => 5
    | 173 => 242
    | 212 => 248
    | 51 => 29
    | 20 => 20
    | 213 => 249
    | 46 => 187
    | 232 => 250
    | 233 => 55
    | n => n,
  g := fun x =>
    match x with
    | 17 => 21
    | 18 => 22
    | 19 => 23
    | n => n }
set_option maxRecDepth 100000 in
theorem laysI : LaysM.n243 Tryd.prog renI :=
  {
    mixed := by kernel_rfl,
    f129 := Tryd.func143.trans (congrArg some (by kernel_rfl)),
    f243 := Tryd.func124.trans (congrArg some (by kernel_rfl)),
    f246 := Tryd.func145.trans (congrArg some (by kernel_rfl)),
    f283 := Tryd.func154.trans (congrArg some (by kernel_rfl)),
    f284 := Tryd.func155.trans (congrArg some (by kernel_rfl)),
    f285 := Tryd.func156.trans (congrArg some (by kernel_rfl)),
    f286 := Tryd.func157.trans (congrArg some (by kernel_rfl)),
    f317 := Tryd.func159.trans (congrArg some (by kernel_rfl)),
    f318 := Tryd.func160.trans (congrArg some (by kernel_rfl)),
    f319 := Tryd.func161.trans (congrArg some (by kernel_rfl)),
    f320 := Tryd.func162.trans (congrArg some (by kernel_rfl)),
    f337 := Tryd.func163.trans (congrArg some (by kernel_rfl)),
    f338 := Tryd.func164.trans (congrArg some (by kernel_rfl)),
    t0 := Tryd.underlying0,
    a0 := Tryd.isAgg0,
    z0 := Tryd.sizeOf0,
    v0 := Tryd.zeroValue0,
    t2 := Tryd.underlying2,
    a2 := Tryd.isAgg2,
    z2 := Tryd.sizeOf2,
    v2 := Tryd.zeroValue2,
    t3 := Tryd.underlying3,
    a3 := Tryd.isAgg3,
    z3 := Tryd.sizeOf3,
    v3 := Tryd.zeroValue3,
    t4 := Tryd.underlying4,
    a4 := Tryd.isAgg4,
    z4 := Tryd.sizeOf4,
    v4 := Tryd.zeroValue4,
    t5 := Tryd.underlying5,
    a5 := Tryd.isAgg5,
    z5 := Tryd.sizeOf5,
    v5 := Tryd.zeroValue5,
    t9 := Tryd.underlying9,
    a9 := Tryd.isAgg9,
    z9 := Tryd.sizeOf9,
    v9 := Tryd.zeroValue9,
    t20 := Tryd.underlying20,
    a20 := Tryd.isAgg20,
    z20 := Tryd.sizeOf20,
    v20 := Tryd.zeroValue20,
    t37 := Tryd.underlying133,
    a37 := Tryd.isAgg133,
    z37 := Tryd.sizeOf133,
    v37 := Tryd.zeroValue133,
    t46 := Tryd.underlying187,
    a46 := Tryd.isAgg187,
    z46 := Tryd.sizeOf187,
    v46 := Tryd.zeroValue187,
    t51 := Tryd.underlying29,
    a51 := Tryd.isAgg29,
    z51 := Tryd.sizeOf29,
    v51 := Tryd.zeroValue29,
    t53 := Tryd.underlying107,
    a53 := Tryd.isAgg107,
    z53 := Tryd.sizeOf107,
    v53 := Tryd.zeroValue107,
    t171 := Tryd.underlying240,
    a171 := Tryd.isAgg240,
    z171 := Tryd.sizeOf240,
    v171 := Tryd.zeroValue240,
    t173 := Tryd.underlying242,
    a173 := Tryd.isAgg242,
    z173 := Tryd.sizeOf242,
    v173 := Tryd.zeroValue242,
    t212 := Tryd.underlying248,
    a212 := Tryd.isAgg248,
    z212 := Tryd.sizeOf248,
    v212 := Tryd.zeroValue248,
    t213 := Tryd.underlying249,
    a213 := Tryd.isAgg249,
    z213 := Tryd.sizeOf249,
    t232 := Tryd.underlying250,
    a232 := Tryd.isAgg250,
    z232 := Tryd.sizeOf250,
    v232 := Tryd.zeroValue250,
    t233 := Tryd.underlying55,
    a233 := Tryd.isAgg55,
    z233 := Tryd.sizeOf55,
    v233 := Tryd.zeroValue55,
    g17 := by kernel_rfl,
    g18 := by kernel_rfl,
    g19 := by kernel_rfl,
    i0 := by kernel_rfl,
    i2 := by kernel_rfl,
    i3 := by kernel_rfl,
    i4 := by kernel_rfl,
    i5 := by kernel_rfl,
    i9 := by kernel_rfl,
    i20 := by kernel_rfl,
    i37 := by kernel_rfl,
    i46 := by kernel_rfl,
    i51 := by kernel_rfl,
    i53 := by kernel_rfl,
    i171 := by kernel_rfl,
    i173 := by kernel_rfl,
    i212 := by kernel_rfl,
    i232 := by kernel_rfl,
    i233 := by kernel_rfl,
    m17 := by kernel_rfl,
    m18 := by kernel_rfl,
    m19 := by kernel_rfl }

theorem _root_.Go.Fv.Inv.grow {σ : Nat → Addr} {K : Ctx} {H : Heap} {w : World} (inv : Fv.Inv σ K H w) (l : List Obj) : Fv.Inv σ K H (Go.Sort.grow w l.toArray) ∧ Evo K H w K H (Go.Sort.grow w l.toArray) := by
  induction l generalizing w with
  | nil => rw [show (([] : List Obj).toArray) = #[] from rfl, Go.Sort.grow_empty]; exact ⟨inv, .refl _ _ _⟩
  | cons o l ih =>
    obtain ⟨i1, e1⟩ := inv.junk o
    obtain ⟨i2, e2⟩ := ih i1
    have : Go.Sort.grow (w.alloc o) l.toArray = Go.Sort.grow w (o :: l).toArray := by
      have h1 : w.alloc o = Go.Sort.grow w #[o] := by unfold Go.Sort.grow World.alloc; simp
      rw [h1, Go.Sort.grow_grow]
      simp
    rw [← this]
    exact ⟨i2, Evo.trans inv i1 e1 e2⟩
theorem _root_.Go.Fv.Inv.drewN {σ : Nat → Addr} {K : Ctx} {H : Heap} {w : World} (inv : Fv.Inv σ K H w) (k : Nat) : Fv.Inv σ K H (w.drewN k) ∧ Evo K H w K H (w.drewN k) := by
  induction k generalizing w with
  | zero => exact ⟨inv, .refl _ _ _⟩
  | succ k ih =>
    obtain ⟨i1, e1⟩ := inv.drew
    obtain ⟨i2, e2⟩ := ih i1
    have : w.drew.drewN k = w.drewN (k + 1) := by rw [World.drewN_drew, Nat.add_comm]
    rw [← this]
    exact ⟨i2, Evo.trans inv i1 e1 e2⟩

set_option maxRecDepth 100000 in
theorem tab_is {G : Nat → Option (List V)} {σ : Nat → Addr} {K : Ctx} {w : World} (gl : GlobOk (cfg G) σ K w) (h : tabOf G = true) : Lib.TabIs Tryd.prog w "internal/strconv.uint64pow10" .u64 Lib.pow10Tab := by
  obtain ⟨_, e, f, hh⟩ := gl.t 21 powTab (by show (if 21 = 21 ∧ tabOf G = true then some powTab else none) = _; rw [if_pos ⟨rfl, h⟩])
  have hg : Tryd.prog.globalNamed "internal/strconv.uint64pow10" = some 21 := by kernel_rfl
  unfold Lib.TabIs World.var?
  rw [hg]
  simp only [Option.bind_some, hh]
  rfl

theorem itoa_sound {G : Nat → Option (List V)} {σ : Nat → Addr} : SoundF (cfg G) σ 124 fun args => M.lift (extX G 124 args) := by
  intro K H w vs xs v H' inv gl ar h
  refine ⟨callable Tryd.func124 (by kernel_rfl) (by kernel_rfl), ?_⟩
  have h0 : extX G 124 vs = itoaX G vs := rfl
  have hx : itoaX G vs = some v ∧ H' = H := by
    rw [← h0]
    cases e : extX G 124 vs with
    | none => simp only [M.lift, e] at h; cases h
    | some u => simp only [M.lift, e, Option.bind_some] at h; cases h; exact ⟨rfl, rfl⟩
  obtain ⟨hx, rfl⟩ := hx
  unfold itoaX at hx
  split at hx
  · rename_i n
    split at hx
    · rename_i hc
      obtain ⟨ht, h1, h2⟩ := hc
      cases hx
      obtain ⟨hl, hr⟩ := ar
      have hs : xs.size = 1 := hl.symm
      have e0 : xs = #[xs[0]] := by
        apply Array.ext
        · simpa using hs
        · intro i a b
          have : i = 0 := by omega
          subst this
          rfl
      have hr0 := hr 0 (.int .i64 n) xs[0] rfl (Array.getElem?_eq_getElem _)
      rw [e0]
      generalize xs[0] = y at hr0
      cases hr0
      refine (Any.internal_strconv_Itoa laysI n h1 h2 w (tab_is gl ht)).mono ?_
      rintro e w' ⟨rfl, k, os, rfl⟩
      obtain ⟨i1, e1⟩ := inv.drewN k
      obtain ⟨i2, e2⟩ := i1.grow os.toList
      have : os.toList.toArray = os := by simp
      rw [this] at i2 e2
      exact ⟨_, rfl, K, .str _, i2, Evo.trans inv i1 e1 e2⟩
    · cases hx
  · cases hx

theorem seen_itoa {G : Nat → Option (List V)} {σ : Nat → Addr} : ∀ f, seens.contains f = true → SoundF (cfg G) σ f fun args => M.lift (extX G f args) := fun f hf => by
  have : f = 124 := by simpa [seens] using hf
  subst this
  exact itoa_sound

def GT : Nat → Option (List V) := fun g => if g = 21 then some [] else none
theorem tabGT : tabOf GT = true := rfl
abbrev laidT : List (String × DataW Unit) := [("math/bits.deBruijn32tab", Rows.laid_math_bits_deBruijn32tab), ("math/bits.deBruijn64tab", Rows.laid_math_bits_deBruijn64tab), ("internal/strconv.uint64pow10", Rows.laid_internal_strconv_uint64pow10)]
set_option maxRecDepth 100000 in
theorem tab_of {W : World} (h : laidMet Tryd.prog laidT W) : Lib.TabIs Tryd.prog W "internal/strconv.uint64pow10" .u64 Lib.pow10Tab := by
  obtain ⟨ps, hv, _⟩ := h
  obtain ⟨_, _, _, _, _, _, _, _, _, _, hv, _⟩ := hv
  obtain ⟨_, _, _, _, _, _, _, _, _, _, hv, _⟩ := hv
  obtain ⟨g', t', cs, fuel, p, q, hg', ht', hvar, hd, _⟩ := hv
  obtain rfl := Option.some.inj ((show Tryd.prog.globalNamed "internal/strconv.uint64pow10" = some 21 by kernel_rfl).symm.trans hg')
  obtain rfl := Option.some.inj ((show (Tryd.prog.globals[21]?).map (·.type) = some 248 by kernel_rfl).symm.trans ht')
  have hl : (Rows.laid_internal_strconv_uint64pow10 : DataW Unit) = Lib.tabData .u64 Lib.pow10Tab := by kernel_rfl
  rw [hl] at hd
  unfold Lib.TabIs
  rw [hvar, ← Lib.cells_of_tab Tryd.underlying248 Tryd.underlying187 (by kernel_rfl) (by kernel_rfl) hd]

theorem globT {W : World} (h : laidMetH Tryd.prog laidT W) : ∃ σ, Apart GT σ ∧ GlobOk (cfg GT) σ (K0 W) W := by
  have h' : laidMet Tryd.prog laidT W := h
  have ht := tab_of h'
  have hg : Tryd.prog.globalNamed "internal/strconv.uint64pow10" = some 21 := by kernel_rfl
  unfold Lib.TabIs World.var? at ht
  rw [hg] at ht
  simp only [Option.bind_some] at ht
  have hs : ∀ k, sentOf GT k = false := fun k => by
    unfold sentOf GT
    split
    · rename_i h
      split at h <;> cases h
    · rfl
  cases hh : W.heap[21]? with
  | none => rw [hh] at ht; cases ht
  | some o =>
    rw [hh] at ht
    cases o with
    | cells cs e f =>
      simp only [Option.some.injEq] at ht
      subst ht
      have hlt : 21 < W.heap.size := (Array.getElem?_eq_some_iff.1 hh).1
      refine ⟨fun _ => ⟨0, 0, none⟩, fun i j hi hj _ => ?_, ⟨fun g row hg => ?_, fun k hk => ?_, fun g v hg => ?_, fun g cs hg => ?_⟩⟩
      · rw [hs] at hi; cases hi
      · have hg : GT g = some row := hg
        unfold GT at hg
        split at hg
        · rename_i e
          subst e
          cases hg
          exact .iptr [] 0 21 0 (fun _ => .nilIface) hlt (fun c hc => by simp at hc) (fun j c hj => by simp at hj) (fun j c hj => by simp at hj)
        · cases hg
      · have hk : sentOf GT k = true := hk
        rw [hs] at hk; cases hk
      · have hd : handOf GT = false := rfl
        unfold cfg at hg
        simp [hd] at hg
      · have hg : (if g = 21 ∧ tabOf GT = true then some powTab else none) = some cs := hg
        split at hg
        · rename_i e
          obtain ⟨rfl, _⟩ := e
          cases hg
          exact ⟨hlt, e, f, hh⟩
        · cases hg
    | _ => cases ht

/-- A world in which the tables are laid. -/
noncomputable def laidWorldT (os : Os) : World :=
  let w0 := World.holding Tryd.prog os ⟨#[], #[], []⟩
  { w0 with heap := ((List.range w0.heap.size).map fun i => match w0.heap.getD i default with
      | .cells cs t frozen => if i = 22 then .cells #[.int .u8 0, .int .u8 1, .int .u8 28, .int .u8 2, .int .u8 29, .int .u8 14, .int .u8 24, .int .u8 3, .int .u8 30, .int .u8 22, .int .u8 20, .int .u8 15, .int .u8 25, .int .u8 17, .int .u8 4, .int .u8 8, .int .u8 31, .int .u8 27, .int .u8 13, .int .u8 23, .int .u8 21, .int .u8 19, .int .u8 16, .int .u8 7, .int .u8 26, .int .u8 12, .int .u8 18, .int .u8 6, .int .u8 11, .int .u8 5, .int .u8 10, .int .u8 9] t frozen else if i = 23 then .cells #[.int .u8 0, .int .u8 1, .int .u8 56, .int .u8 2, .int .u8 57, .int .u8 49, .int .u8 28, .int .u8 3, .int .u8 61, .int .u8 58, .int .u8 42, .int .u8 50, .int .u8 38, .int .u8 29, .int .u8 17, .int .u8 4, .int .u8 62, .int .u8 47, .int .u8 59, .int .u8 36, .int .u8 45, .int .u8 43, .int .u8 51, .int .u8 22, .int .u8 53, .int .u8 39, .int .u8 33, .int .u8 30, .int .u8 24, .int .u8 18, .int .u8 12, .int .u8 5, .int .u8 63, .int .u8 55, .int .u8 48, .int .u8 27, .int .u8 60, .int .u8 41, .int .u8 37, .int .u8 16, .int .u8 46, .int .u8 35, .int .u8 44, .int .u8 21, .int .u8 52, .int .u8 32, .int .u8 23, .int .u8 11, .int .u8 54, .int .u8 26, .int .u8 40, .int .u8 15, .int .u8 34, .int .u8 20, .int .u8 31, .int .u8 10, .int .u8 25, .int .u8 14, .int .u8 19, .int .u8 9, .int .u8 13, .int .u8 8, .int .u8 7, .int .u8 6] t frozen else if i = 21 then .cells #[.int .u64 1, .int .u64 10, .int .u64 100, .int .u64 1000, .int .u64 10000, .int .u64 100000, .int .u64 1000000, .int .u64 10000000, .int .u64 100000000, .int .u64 1000000000, .int .u64 10000000000, .int .u64 100000000000, .int .u64 1000000000000, .int .u64 10000000000000, .int .u64 100000000000000, .int .u64 1000000000000000, .int .u64 10000000000000000, .int .u64 100000000000000000, .int .u64 1000000000000000000, .int .u64 10000000000000000000] t frozen else .cells cs t frozen
      | o => o).toArray }
set_option maxRecDepth 100000 in
theorem laid_metT (os : Os) (args : Array Value) : laidMetH Tryd.prog laidT ((laidWorldT os).forCall (fun _ _ => 0) ⟨#[], args, []⟩).memory :=
  show laidMet _ _ _ from laidMet_of_run' 8 (by kernel_rfl) (by kernel_rfl)
end Go.Proofs.YtjjiphigolegbaaDoor
