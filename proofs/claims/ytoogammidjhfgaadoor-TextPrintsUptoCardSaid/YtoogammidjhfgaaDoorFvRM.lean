/-
  What the seat's laws share: closed facts; what a row's listed variables give; the library's contracts. By an AI agent; no person has read it.
-/
import Derived.Test.YtoogammidjhfgaaDoorFvGx
import Derived.Test.YtoogammidjhfgaaDoorFvW6
import Derived.Test.YtoogammidjhfgaaDoorFvRJ
import Derived.Test.YtoogammidjhfgaaDoorFvW4
import Derived.Shelf.Strconv.Itoa3
import Derived.Lib.LaidTab
import Derived.Test.YtoogammidjhfgaaDoorRows
import Derived.Test.YtoogammidjhfgaaDoorTie
import Derived.Test.YtoogammidjhfgaaDoorCards
import Derived.ChangeSame
import Derived.ChangeVars
import Derived.JoinedOf
import Derived.RowKit
import Derived.RowKitTokens
import Derived.LaidLaws
import Derived.LaidHandle
import Derived.Stop.Joined
import Derived.SevenTiedAt
set_option linter.unusedVariables false
set_option linter.unusedSimpArgs false
set_option linter.unusedSectionVars false
/-! What the seat's laws share: closed facts; what a row's listed variables give; the library's contracts. -/
namespace Go.Proofs.YtoogammidjhfgaaDoor
open Go Go.Fv Go.Fv.Tr Go.ChangeShapes Go.WideShapes Go.RowKit Go.Shelf

def renI : Ren :=
{
  f := fun x =>
    match x with
    | 243 => 173
    | 246 => 196
    | 283 => 203
    | 284 => 204
    | 285 => 205
    | 286 => 206
    | 129 => 191
    | 317 => 208
    | 318 => 209
    | 319 => 210
    | 320 => 211
    | 337 => 212
    | 338 => 213
    | n => n,
  t := fun x =>
    match x with
    | 3 => 3
    | 9 => 9
    | 2 => 2
    | 4 => 4
    | 171 => 331
    | 0 => 0
    | 53 => 321
    | 37 => 141
    | 5 => 5
    | 173 => 333
    | 212 => 338
    | 51 => 77
    | 20 => 20
    | 213 => 339
    | 46 => 286
    | 232 => 340
    | 233 => 134
    | n => n,
  g := fun x =>
    match x with
    | 17 => 22
    | 18 => 23
    | 19 => 24
    | n => n }
set_option maxRecDepth 100000 in
theorem laysI : LaysM.n243 Tryd.prog renI :=
  {
    mixed := by kernel_rfl,
    f129 := Tryd.func191.trans (congrArg some (by kernel_rfl)),
    f243 := Tryd.func173.trans (congrArg some (by kernel_rfl)),
    f246 := Tryd.func196.trans (congrArg some (by kernel_rfl)),
    f283 := Tryd.func203.trans (congrArg some (by kernel_rfl)),
    f284 := Tryd.func204.trans (congrArg some (by kernel_rfl)),
    f285 := Tryd.func205.trans (congrArg some (by kernel_rfl)),
    f286 := Tryd.func206.trans (congrArg some (by kernel_rfl)),
    f317 := Tryd.func208.trans (congrArg some (by kernel_rfl)),
    f318 := Tryd.func209.trans (congrArg some (by kernel_rfl)),
    f319 := Tryd.func210.trans (congrArg some (by kernel_rfl)),
    f320 := Tryd.func211.trans (congrArg some (by kernel_rfl)),
    f337 := Tryd.func212.trans (congrArg some (by kernel_rfl)),
    f338 := Tryd.func213.trans (congrArg some (by kernel_rfl)),
    t0 := Tryd.underlying0,
    a0 := Tryd.isAgg0,
    z0 := Tryd.sizeOf0,
    v0 := Tryd.zeroValue0,
    t2 := Tryd.underlying2,
    a2 := Tryd.isAgg2,
    z2 := Tryd.sizeOf2,
    v2 := Tryd.zeroValue2,
    t3 := Tryd.underlying3,
    a3 := Tryd.isAgg3,
    z3 := Tryd.sizeOf3,
    v3 := Tryd.zeroValue3,
    t4 := Tryd.underlying4,
    a4 := Tryd.isAgg4,
    z4 := Tryd.sizeOf4,
    v4 := Tryd.zeroValue4,
    t5 := Tryd.underlying5,
    a5 := Tryd.isAgg5,
    z5 := Tryd.sizeOf5,
    v5 := Tryd.zeroValue5,
    t9 := Tryd.underlying9,
    a9 := Tryd.isAgg9,
    z9 := Tryd.sizeOf9,
    v9 := Tryd.zeroValue9,
    t20 := Tryd.underlying20,
    a20 := Tryd.isAgg20,
    z20 := Tryd.sizeOf20,
    v20 := Tryd.zeroValue20,
    t37 := Tryd.underlying141,
    a37 := Tryd.isAgg141,
    z37 := Tryd.sizeOf141,
    v37 := Tryd.zeroValue141,
    t46 := Tryd.underlying286,
    a46 := Tryd.isAgg286,
    z46 := Tryd.sizeOf286,
    v46 := Tryd.zeroValue286,
    t51 := Tryd.underlying77,
    a51 := Tryd.isAgg77,
    z51 := Tryd.sizeOf77,
    v51 := Tryd.zeroValue77,
    t53 := Tryd.underlying321,
    a53 := Tryd.isAgg321,
    z53 := Tryd.sizeOf321,
    v53 := Tryd.zeroValue321,
    t171 := Tryd.underlying331,
    a171 := Tryd.isAgg331,
    z171 := Tryd.sizeOf331,
    v171 := Tryd.zeroValue331,
    t173 := Tryd.underlying333,
    a173 := Tryd.isAgg333,
    z173 := Tryd.sizeOf333,
    v173 := Tryd.zeroValue333,
    t212 := Tryd.underlying338,
    a212 := Tryd.isAgg338,
    z212 := Tryd.sizeOf338,
    v212 := Tryd.zeroValue338,
    t213 := Tryd.underlying339,
    a213 := Tryd.isAgg339,
    z213 := Tryd.sizeOf339,
    t232 := Tryd.underlying340,
    a232 := Tryd.isAgg340,
    z232 := Tryd.sizeOf340,
    v232 := Tryd.zeroValue340,
    t233 := Tryd.underlying134,
    a233 := Tryd.isAgg134,
    z233 := Tryd.sizeOf134,
    v233 := Tryd.zeroValue134,
    g17 := by kernel_rfl,
    g18 := by kernel_rfl,
    g19 := by kernel_rfl,
    i0 := by kernel_rfl,
    i2 := by kernel_rfl,
    i3 := by kernel_rfl,
    i4 := by kernel_rfl,
    i5 := by kernel_rfl,
    i9 := by kernel_rfl,
    i20 := by kernel_rfl,
    i37 := by kernel_rfl,
    i46 := by kernel_rfl,
    i51 := by kernel_rfl,
    i53 := by kernel_rfl,
    i171 := by kernel_rfl,
    i173 := by kernel_rfl,
    i212 := by kernel_rfl,
    i232 := by kernel_rfl,
    i233 := by kernel_rfl,
    m17 := by kernel_rfl,
    m18 := by kernel_rfl,
    m19 := by kernel_rfl }

theorem _root_.Go.Fv.Inv.grow {σ : Nat → Addr} {K : Ctx} {H : Heap} {w : World} (inv : Fv.Inv σ K H w) (l : List Obj) : Fv.Inv σ K H (Go.Sort.grow w l.toArray) ∧ Evo K H w K H (Go.Sort.grow w l.toArray) := by
  induction l generalizing w with
  | nil => rw [show (([] : List Obj).toArray) = #[] from rfl, Go.Sort.grow_empty]; exact ⟨inv, .refl _ _ _⟩
  | cons o l ih =>
    obtain ⟨i1, e1⟩ := inv.junk o
    obtain ⟨i2, e2⟩ := ih i1
    have : Go.Sort.grow (w.alloc o) l.toArray = Go.Sort.grow w (o :: l).toArray := by
      have h1 : w.alloc o = Go.Sort.grow w #[o] := by unfold Go.Sort.grow World.alloc; simp
      rw [h1, Go.Sort.grow_grow]
      simp
    rw [← this]
    exact ⟨i2, Evo.trans inv i1 e1 e2⟩
theorem _root_.Go.Fv.Inv.drewN {σ : Nat → Addr} {K : Ctx} {H : Heap} {w : World} (inv : Fv.Inv σ K H w) (k : Nat) : Fv.Inv σ K H (w.drewN k) ∧ Evo K H w K H (w.drewN k) := by
  induction k generalizing w with
  | zero => exact ⟨inv, .refl _ _ _⟩
  | succ k ih =>
    obtain ⟨i1, e1⟩ := inv.drew
    obtain ⟨i2, e2⟩ := ih i1
    have : w.drew.drewN k = w.drewN (k + 1) := by rw [World.drewN_drew, Nat.add_comm]
    rw [← this]
    exact ⟨i2, Evo.trans inv i1 e1 e2⟩

set_option maxRecDepth 100000 in
theorem tab_is {G : Nat → Option (List V)} {σ : Nat → Addr} {K : Ctx} {w : World} (gl : GlobOk (cfg G) σ K w) (h : tabOf G = true) : Lib.TabIs Tryd.prog w "internal/strconv.uint64pow10" .u64 Lib.pow10Tab := by
  obtain ⟨_, e, f, hh⟩ := gl.t 22 powTab (by show (if 22 = 22 ∧ tabOf G = true then some powTab else none) = _; rw [if_pos ⟨rfl, h⟩])
  have hg : Tryd.prog.globalNamed "internal/strconv.uint64pow10" = some 22 := by kernel_rfl
  unfold Lib.TabIs World.var?
  rw [hg]
  simp only [Option.bind_some, hh]
  rfl

theorem itoa_sound {G : Nat → Option (List V)} {σ : Nat → Addr} : SoundF (cfg G) σ 173 fun args => M.lift (extX G 173 args) := by
  intro K H w vs xs v H' inv gl ar h
  refine ⟨callable Tryd.func173 (by kernel_rfl) (by kernel_rfl), ?_⟩
  have h0 : extX G 173 vs = itoaX G vs := rfl
  have hx : itoaX G vs = some v ∧ H' = H := by
    rw [← h0]
    cases e : extX G 173 vs with
    | none => simp only [M.lift, e] at h; cases h
    | some u => simp only [M.lift, e, Option.bind_some] at h; cases h; exact ⟨rfl, rfl⟩
  obtain ⟨hx, rfl⟩ := hx
  unfold itoaX at hx
  split at hx
  · rename_i n
    split at hx
    · rename_i hc
      obtain ⟨ht, h1, h2⟩ := hc
      cases hx
      obtain ⟨hl, hr⟩ := ar
      have hs : xs.size = 1 := hl.symm
      have e0 : xs = #[xs[0]] := by
        apply Array.ext
        · simpa using hs
        · intro i a b
          have : i = 0 := by omega
          subst this
          rfl
      have hr0 := hr 0 (.int .i64 n) xs[0] rfl (Array.getElem?_eq_getElem _)
      rw [e0]
      generalize xs[0] = y at hr0
      cases hr0
      refine (Any.internal_strconv_Itoa laysI n h1 h2 w (tab_is gl ht)).mono ?_
      rintro e w' ⟨rfl, k, os, rfl⟩
      obtain ⟨i1, e1⟩ := inv.drewN k
      obtain ⟨i2, e2⟩ := i1.grow os.toList
      have : os.toList.toArray = os := by simp
      rw [this] at i2 e2
      exact ⟨_, rfl, K, .str _, i2, Evo.trans inv i1 e1 e2⟩
    · cases hx
  · cases hx


theorem seen_all {G : Nat → Option (List V)} {σ : Nat → Addr} : ∀ f, seens.contains f = true → f ≠ 86 → SoundF (cfg G) σ f fun args => M.lift (extX G f args) := fun f hf hn => by
  have : f = 86 ∨ f = 173 ∨ f = 84 := by simpa [seens] using hf
  rcases this with rfl | rfl | rfl
  · exact absurd rfl hn
  · exact itoa_sound
  · exact join_sound
theorem goodX {σ : Nat → Addr} (hσ : Apart GX σ) : Fv.Good (cfg GX) σ := goodA hσ ⟨rfl, rfl⟩ seen_all

theorem own : ownKnob Tryd.prog.godebug = none := by kernel_rfl
theorem kids : Kids Tryd.prog (· < Tryd.prog.types.size) := kids_rows (by kernel_rfl) (by kernel_rfl)
theorem full : ∀ t e, t < Tryd.prog.types.size → Tryd.prog.underlying t = some (.slice e) → 0 < Tryd.prog.cellsOf e := slices_full_of Tryd.prog (by kernel_rfl)
theorem star : "*" ++ "errors.errorString" = "*errors.errorString" := by decide
theorem row251 (u : TypeId) (h : Tryd.prog.typeName? 3 u = some "*errors.errorString") : u = 341 :=
  typeName_ptr_named (nm := "errors.errorString") (by rw [star]; kernel_rfl) (by kernel_rfl) (by decide) u (by rw [star]; exact h)
theorem cells270 : Tryd.prog.cellsOf 360 = 1 := by kernel_rfl
theorem cells9 : Tryd.prog.cellsOf 9 = 1 := by kernel_rfl
abbrev lx : List (String × DataW Unit) := [("math/bits.deBruijn32tab", Rows.laid_math_bits_deBruijn32tab), ("math/bits.deBruijn64tab", Rows.laid_math_bits_deBruijn64tab), ("internal/strconv.uint64pow10", Rows.laid_internal_strconv_uint64pow10), ("ferry/api.ErrShort", Rows.laid_ferry_api_ErrShort), ("ferry/api.ErrRest", Rows.laid_ferry_api_ErrRest), ("ferry/api.ErrTag", Rows.laid_ferry_api_ErrTag), ("ferry/api.ErrRange", Rows.laid_ferry_api_ErrRange), ("ferry/api.ErrLength", Rows.laid_ferry_api_ErrLength), ("ferry/api.ErrSum", Rows.laid_ferry_api_ErrSum), ("ferry/api.ErrKind", Rows.laid_ferry_api_ErrKind), ("ferry/api.ErrPlan", Rows.laid_ferry_api_ErrPlan), ("ferry/api.ErrState", Rows.laid_ferry_api_ErrState), ("ferry/api.ErrBase", Rows.laid_ferry_api_ErrBase), ("ferry/api.ErrSize", Rows.laid_ferry_api_ErrSize), ("ferry/api.ErrArg", Rows.laid_ferry_api_ErrArg), ("ferry/api.ErrEnd", Rows.laid_ferry_api_ErrEnd), ("ferry/api.ErrBusy", Rows.laid_ferry_api_ErrBusy), ("ferry/api.ErrDown", Rows.laid_ferry_api_ErrDown), ("ferry/api.ErrLost", Rows.laid_ferry_api_ErrLost), ("ferry/api.ErrNone", Rows.laid_ferry_api_ErrNone), ("ferry/api.ErrText", Rows.laid_ferry_api_ErrText), ("ferry/api.ErrStop", Rows.laid_ferry_api_ErrStop), ("ferry/api.ErrDivide", Rows.laid_ferry_api_ErrDivide)]
abbrev laidX : List (String × DataW Unit) := [("math/bits.deBruijn32tab", Rows.laid_math_bits_deBruijn32tab), ("math/bits.deBruijn64tab", Rows.laid_math_bits_deBruijn64tab), ("internal/strconv.uint64pow10", Rows.laid_internal_strconv_uint64pow10), ("errors.errorType", Rows.laid_errors_errorType), ("ferry/api.ErrShort", Rows.laid_ferry_api_ErrShort), ("ferry/api.ErrRest", Rows.laid_ferry_api_ErrRest), ("ferry/api.ErrTag", Rows.laid_ferry_api_ErrTag), ("ferry/api.ErrRange", Rows.laid_ferry_api_ErrRange), ("ferry/api.ErrLength", Rows.laid_ferry_api_ErrLength), ("ferry/api.ErrSum", Rows.laid_ferry_api_ErrSum), ("ferry/api.ErrKind", Rows.laid_ferry_api_ErrKind), ("ferry/api.ErrPlan", Rows.laid_ferry_api_ErrPlan), ("ferry/api.ErrState", Rows.laid_ferry_api_ErrState), ("ferry/api.ErrBase", Rows.laid_ferry_api_ErrBase), ("ferry/api.ErrSize", Rows.laid_ferry_api_ErrSize), ("ferry/api.ErrArg", Rows.laid_ferry_api_ErrArg), ("ferry/api.ErrEnd", Rows.laid_ferry_api_ErrEnd), ("ferry/api.ErrBusy", Rows.laid_ferry_api_ErrBusy), ("ferry/api.ErrDown", Rows.laid_ferry_api_ErrDown), ("ferry/api.ErrLost", Rows.laid_ferry_api_ErrLost), ("ferry/api.ErrNone", Rows.laid_ferry_api_ErrNone), ("ferry/api.ErrText", Rows.laid_ferry_api_ErrText), ("ferry/api.ErrStop", Rows.laid_ferry_api_ErrStop), ("ferry/api.ErrDivide", Rows.laid_ferry_api_ErrDivide)]
/-- A sentinel's variable. -/
theorem sent {W : World} (hm : laidMet Tryd.prog lx W) {name : String} {text : List UInt8} (hx : (name, DataW.iface "*errors.errorString" (.ptr (.agg [.lit (.string text)]))) ∈ lx)
    {g : Nat} (hg : Tryd.prog.globalNamed name = some g) (ht : (Tryd.prog.globals[g]?).map (·.type) = some 69) : ∃ a, W.cell? ⟨g, 0, none⟩ = some (.iface 341 (.pointer (some a))) ∧ (∃ s : ByteArray, W.cell? a = some (.string s) ∧ s.data.toList = text) ∧ ∃ cs t, W.heap[a.block]? = some (Obj.cells cs t (0, 0)) :=
  sentinel_cell hm hx hg ht Tryd.underlying69 row251 Tryd.underlying341 Tryd.underlying360 rfl rfl Tryd.underlying9 cells270 cells9
theorem block_lt {W : World} {g : Nat} {v : Value} (h : W.cell? ⟨g, 0, none⟩ = some v) : g < W.heap.size := World.block_lt_of_cell? W _ h
theorem sent_rel {σ : Nat → Addr} {W : World} {g : Nat} (h : W.cell? ⟨g, 0, none⟩ = some (.iface 341 (.pointer (some (σ g))))) : Rel σ (K0 W) W (.iptr [errV g] 0) (.pointer (some ⟨g, 0, none⟩)) := by
  have hx : Rel σ (K0 W) W (errV g) (.iface 341 (.pointer (some (σ g)))) := .iface 341 (.ext g) _ rfl (.ext g)
  refine .iptr [errV g] 0 g 0 (fun _ => .iface 341 (.pointer (some (σ g)))) (block_lt h) (fun c hc => ?_) (fun j c hj => ?_) (fun j c hj => ?_)
  · rw [List.mem_singleton] at hc; subst hc; rfl
  · cases j with
    | zero => exact h
    | succ j => simp at hj
  · cases j with
    | zero => simp at hj; subst hj; exact hx
    | succ j => simp at hj
def txt (g : Nat) : List UInt8 := if g = 0 then [116, 104, 101, 32, 98, 121, 116, 101, 115, 32, 101, 110, 100, 32, 116, 111, 111, 32, 101, 97, 114, 108, 121] else if g = 1 then [115, 111, 109, 101, 116, 104, 105, 110, 103, 32, 105, 115, 32, 108, 101, 102, 116, 32, 111, 118, 101, 114] else if g = 2 then [97, 110, 111, 116, 104, 101, 114, 32, 116, 97, 103, 32, 105, 115, 32, 119, 97, 110, 116, 101, 100] else if g = 3 then [97, 32, 110, 117, 109, 98, 101, 114, 32, 111, 117, 116, 32, 111, 102, 32, 105, 116, 115, 32, 114, 97, 110, 103, 101] else if g = 4 then [97, 32, 108, 101, 110, 103, 116, 104, 32, 116, 104, 97, 116, 32, 105, 115, 110, 39, 116, 32, 116, 104, 101, 32, 116, 104, 105, 110, 103, 39, 115] else if g = 5 then [116, 104, 101, 32, 99, 104, 101, 99, 107, 32, 115, 117, 109, 32, 105, 115, 32, 119, 114, 111, 110, 103] else if g = 6 then [110, 111, 32, 115, 117, 99, 104, 32, 107, 105, 110, 100] else if g = 7 then [110, 111, 116, 32, 111, 102, 32, 116, 104, 105, 115, 32, 112, 108, 97, 110] else if g = 8 then [116, 104, 101, 32, 115, 116, 97, 116, 101, 32, 98, 114, 101, 97, 107, 115, 32, 97, 32, 114, 117, 108, 101] else if g = 9 then [110, 111, 116, 32, 111, 118, 101, 114, 32, 116, 104, 105, 115, 32, 98, 97, 115, 101] else if g = 10 then [97, 32, 119, 114, 111, 110, 103, 32, 97, 114, 103, 117, 109, 101, 110, 116] else if g = 11 then [116, 104, 101, 114, 101, 32, 105, 115, 32, 110, 111, 110, 101] else if g = 12 then [116, 111, 111, 32, 108, 97, 114, 103, 101] else if g = 13 then [97, 32, 99, 111, 117, 110, 116, 101, 114, 32, 105, 115, 32, 97, 116, 32, 105, 116, 115, 32, 101, 110, 100] else if g = 14 then [115, 111, 109, 101, 116, 104, 105, 110, 103, 32, 105, 115, 32, 117, 110, 100, 101, 114, 32, 119, 97, 121] else if g = 15 then [116, 104, 101, 32, 109, 111, 100, 117, 108, 101, 32, 105, 115, 32, 100, 111, 119, 110] else if g = 16 then [116, 104, 101, 32, 112, 97, 114, 116, 105, 116, 105, 111, 110, 32, 105, 115, 32, 108, 111, 115, 116] else if g = 17 then [97, 32, 116, 101, 120, 116, 32, 116, 104, 97, 116, 32, 105, 115, 110, 39, 116, 32, 111, 102, 32, 116, 104, 101, 32, 108, 97, 110, 103, 117, 97, 103, 101] else if g = 18 then [99, 97, 110, 99, 101, 108, 108, 101, 100] else if g = 19 then [100, 105, 118, 105, 115, 105, 111, 110, 32, 98, 121, 32, 122, 101, 114, 111] else []
theorem sent_mem {g : Nat} (h : isSent g = true) : g ∈ sentL := by unfold isSent at h; exact List.contains_iff_mem.1 h
theorem gn0 : Tryd.prog.globalNamed "ferry/api.ErrShort" = some 0 := by kernel_rfl
theorem gt0 : (Tryd.prog.globals[0]?).map (·.type) = some 69 := by kernel_rfl
theorem gn1 : Tryd.prog.globalNamed "ferry/api.ErrRest" = some 1 := by kernel_rfl
theorem gt1 : (Tryd.prog.globals[1]?).map (·.type) = some 69 := by kernel_rfl
theorem gn2 : Tryd.prog.globalNamed "ferry/api.ErrTag" = some 2 := by kernel_rfl
theorem gt2 : (Tryd.prog.globals[2]?).map (·.type) = some 69 := by kernel_rfl
theorem gn3 : Tryd.prog.globalNamed "ferry/api.ErrRange" = some 3 := by kernel_rfl
theorem gt3 : (Tryd.prog.globals[3]?).map (·.type) = some 69 := by kernel_rfl
theorem gn4 : Tryd.prog.globalNamed "ferry/api.ErrLength" = some 4 := by kernel_rfl
theorem gt4 : (Tryd.prog.globals[4]?).map (·.type) = some 69 := by kernel_rfl
theorem gn5 : Tryd.prog.globalNamed "ferry/api.ErrSum" = some 5 := by kernel_rfl
theorem gt5 : (Tryd.prog.globals[5]?).map (·.type) = some 69 := by kernel_rfl
theorem gn6 : Tryd.prog.globalNamed "ferry/api.ErrKind" = some 6 := by kernel_rfl
theorem gt6 : (Tryd.prog.globals[6]?).map (·.type) = some 69 := by kernel_rfl
theorem gn7 : Tryd.prog.globalNamed "ferry/api.ErrPlan" = some 7 := by kernel_rfl
theorem gt7 : (Tryd.prog.globals[7]?).map (·.type) = some 69 := by kernel_rfl
theorem gn8 : Tryd.prog.globalNamed "ferry/api.ErrState" = some 8 := by kernel_rfl
theorem gt8 : (Tryd.prog.globals[8]?).map (·.type) = some 69 := by kernel_rfl
theorem gn9 : Tryd.prog.globalNamed "ferry/api.ErrBase" = some 9 := by kernel_rfl
theorem gt9 : (Tryd.prog.globals[9]?).map (·.type) = some 69 := by kernel_rfl
theorem gn10 : Tryd.prog.globalNamed "ferry/api.ErrArg" = some 10 := by kernel_rfl
theorem gt10 : (Tryd.prog.globals[10]?).map (·.type) = some 69 := by kernel_rfl
theorem gn11 : Tryd.prog.globalNamed "ferry/api.ErrNone" = some 11 := by kernel_rfl
theorem gt11 : (Tryd.prog.globals[11]?).map (·.type) = some 69 := by kernel_rfl
theorem gn12 : Tryd.prog.globalNamed "ferry/api.ErrSize" = some 12 := by kernel_rfl
theorem gt12 : (Tryd.prog.globals[12]?).map (·.type) = some 69 := by kernel_rfl
theorem gn13 : Tryd.prog.globalNamed "ferry/api.ErrEnd" = some 13 := by kernel_rfl
theorem gt13 : (Tryd.prog.globals[13]?).map (·.type) = some 69 := by kernel_rfl
theorem gn14 : Tryd.prog.globalNamed "ferry/api.ErrBusy" = some 14 := by kernel_rfl
theorem gt14 : (Tryd.prog.globals[14]?).map (·.type) = some 69 := by kernel_rfl
theorem gn15 : Tryd.prog.globalNamed "ferry/api.ErrDown" = some 15 := by kernel_rfl
theorem gt15 : (Tryd.prog.globals[15]?).map (·.type) = some 69 := by kernel_rfl
theorem gn16 : Tryd.prog.globalNamed "ferry/api.ErrLost" = some 16 := by kernel_rfl
theorem gt16 : (Tryd.prog.globals[16]?).map (·.type) = some 69 := by kernel_rfl
theorem gn17 : Tryd.prog.globalNamed "ferry/api.ErrText" = some 17 := by kernel_rfl
theorem gt17 : (Tryd.prog.globals[17]?).map (·.type) = some 69 := by kernel_rfl
theorem gn18 : Tryd.prog.globalNamed "ferry/api.ErrStop" = some 18 := by kernel_rfl
theorem gt18 : (Tryd.prog.globals[18]?).map (·.type) = some 69 := by kernel_rfl
theorem gn19 : Tryd.prog.globalNamed "ferry/api.ErrDivide" = some 19 := by kernel_rfl
theorem gt19 : (Tryd.prog.globals[19]?).map (·.type) = some 69 := by kernel_rfl
theorem gnH : Tryd.prog.globalNamed "errors.errorType" = some 20 := by kernel_rfl
theorem rtH : (Tryd.prog.cutTypes.find? (·.1 == "internal/reflectlite.rtype")).map (·.2) = some 294 := by kernel_rfl
theorem oneRowH : ((List.range 372).filter fun t => Tryd.prog.rowNamed t [101, 114, 114, 111, 114]) = [69] := by kernel_rfl
theorem sizeH : Tryd.prog.types.size = 372 := by kernel_rfl
theorem typH : typeHandle Tryd.prog 69 = .pointer (some ⟨25, 69, none⟩) := by kernel_rfl
theorem handle_of {W : World} (h : handlesMet Tryd.prog [("errors.errorType", Rows.laid_errors_errorType)] W) : W.cell? ⟨20, 0, none⟩ = some (.iface 294 (.agg #[.pointer (some ⟨25, 69, none⟩)])) := by
  obtain ⟨name, u, ty, e1, e2, e3, e4, e5⟩ := h _ (List.mem_singleton.2 rfl)
  have en : name = [101, 114, 114, 111, 114] := (Option.some.inj e1).symm
  subst en
  obtain rfl := Option.some.inj (rtH.symm.trans e2)
  have hm : ty ∈ (List.range 372).filter fun t => Tryd.prog.rowNamed t [101, 114, 114, 111, 114] := List.mem_filter.2 ⟨List.mem_range.2 (by rw [← sizeH]; exact e3), e4⟩
  rw [oneRowH] at hm
  obtain rfl := List.mem_singleton.1 hm
  rw [typH] at e5
  simpa using World.var?_cell gnH e5 0
set_option maxRecDepth 100000 in
theorem tab_of {W : World} (h : laidMet Tryd.prog lx W) : Lib.TabIs Tryd.prog W "internal/strconv.uint64pow10" .u64 Lib.pow10Tab := by
  obtain ⟨ps, hv, _⟩ := h
  obtain ⟨g', t', cs, fuel, p, hg', ht', hvar, hd, _⟩ := laid_mem hv ("internal/strconv.uint64pow10", Rows.laid_internal_strconv_uint64pow10) (List.mem_of_getElem? (i := 2) rfl)
  obtain rfl := Option.some.inj ((show Tryd.prog.globalNamed "internal/strconv.uint64pow10" = some 22 by kernel_rfl).symm.trans hg')
  obtain rfl := Option.some.inj ((show (Tryd.prog.globals[22]?).map (·.type) = some 338 by kernel_rfl).symm.trans ht')
  have hl : (Rows.laid_internal_strconv_uint64pow10 : DataW Unit) = Lib.tabData .u64 Lib.pow10Tab := by kernel_rfl
  rw [hl] at hd
  unfold Lib.TabIs
  rw [hvar, ← Lib.cells_of_tab Tryd.underlying338 Tryd.underlying286 (by kernel_rfl) (by kernel_rfl) hd]

theorem each {W : World} (hm : laidMet Tryd.prog lx W) : ∀ g, isSent g = true → ∃ a, W.cell? ⟨g, 0, none⟩ = some (.iface 341 (.pointer (some a))) ∧ (∃ s : ByteArray, W.cell? a = some (.string s) ∧ s.data.toList = txt g) ∧ ∃ cs t, W.heap[a.block]? = some (Obj.cells cs t (0, 0)) := by
  intro g hg
  have hc : g = 0 ∨ g = 1 ∨ g = 2 ∨ g = 3 ∨ g = 4 ∨ g = 5 ∨ g = 6 ∨ g = 7 ∨ g = 8 ∨ g = 9 ∨ g = 10 ∨ g = 11 ∨ g = 12 ∨ g = 13 ∨ g = 14 ∨ g = 15 ∨ g = 16 ∨ g = 17 ∨ g = 18 ∨ g = 19 := by simpa [sentL] using sent_mem hg
  rcases hc with rfl | rfl | rfl | rfl | rfl | rfl | rfl | rfl | rfl | rfl | rfl | rfl | rfl | rfl | rfl | rfl | rfl | rfl | rfl | rfl
  · exact sent hm (text := txt 0) (List.mem_of_getElem? (i := 3) rfl) gn0 gt0
  · exact sent hm (text := txt 1) (List.mem_of_getElem? (i := 4) rfl) gn1 gt1
  · exact sent hm (text := txt 2) (List.mem_of_getElem? (i := 5) rfl) gn2 gt2
  · exact sent hm (text := txt 3) (List.mem_of_getElem? (i := 6) rfl) gn3 gt3
  · exact sent hm (text := txt 4) (List.mem_of_getElem? (i := 7) rfl) gn4 gt4
  · exact sent hm (text := txt 5) (List.mem_of_getElem? (i := 8) rfl) gn5 gt5
  · exact sent hm (text := txt 6) (List.mem_of_getElem? (i := 9) rfl) gn6 gt6
  · exact sent hm (text := txt 7) (List.mem_of_getElem? (i := 10) rfl) gn7 gt7
  · exact sent hm (text := txt 8) (List.mem_of_getElem? (i := 11) rfl) gn8 gt8
  · exact sent hm (text := txt 9) (List.mem_of_getElem? (i := 12) rfl) gn9 gt9
  · exact sent hm (text := txt 10) (List.mem_of_getElem? (i := 14) rfl) gn10 gt10
  · exact sent hm (text := txt 11) (List.mem_of_getElem? (i := 19) rfl) gn11 gt11
  · exact sent hm (text := txt 12) (List.mem_of_getElem? (i := 13) rfl) gn12 gt12
  · exact sent hm (text := txt 13) (List.mem_of_getElem? (i := 15) rfl) gn13 gt13
  · exact sent hm (text := txt 14) (List.mem_of_getElem? (i := 16) rfl) gn14 gt14
  · exact sent hm (text := txt 15) (List.mem_of_getElem? (i := 17) rfl) gn15 gt15
  · exact sent hm (text := txt 16) (List.mem_of_getElem? (i := 18) rfl) gn16 gt16
  · exact sent hm (text := txt 17) (List.mem_of_getElem? (i := 20) rfl) gn17 gt17
  · exact sent hm (text := txt 18) (List.mem_of_getElem? (i := 21) rfl) gn18 gt18
  · exact sent hm (text := txt 19) (List.mem_of_getElem? (i := 22) rfl) gn19 gt19
theorem txt_inj' : ∀ i, i ∈ sentL → ∀ j, j ∈ sentL → txt i = txt j → i = j := by decide
theorem txt_inj (i : Nat) (hi : isSent i = true) (j : Nat) (hj : isSent j = true) : txt i = txt j → i = j := txt_inj' i (sent_mem hi) j (sent_mem hj)
theorem sent_of {k : Nat} (h : sentOf GX k = true) : isSent k = true := by
  by_cases g : isSent k = true
  · exact g
  · exfalso
    unfold sentOf GX at h
    rw [if_neg g] at h
    by_cases e : k = 20
    · rw [if_pos e] at h; simp at h
    · rw [if_neg e] at h
      by_cases e2 : k = 22
      · rw [if_pos e2] at h; simp at h
      · rw [if_neg e2] at h; simp at h
open Classical in
theorem globX {W : World} (h : laidMetH Tryd.prog laidX W) : ∃ σ, Apart GX σ ∧ GlobOk (cfg GX) σ (K0 W) W := by
  have h' : laidMet Tryd.prog lx W ∧ handlesMet Tryd.prog [("errors.errorType", Rows.laid_errors_errorType)] W := h
  have hz := handle_of h'.2
  have he := each h'.1
  have ht := tab_of h'.1
  have hg : Tryd.prog.globalNamed "internal/strconv.uint64pow10" = some 22 := by kernel_rfl
  unfold Lib.TabIs World.var? at ht
  rw [hg] at ht
  simp only [Option.bind_some] at ht
  obtain ⟨ce, cf, hh⟩ : ∃ e f, W.heap[22]? = some (.cells powTab e f) := by
    cases hh : W.heap[22]? with
    | none => rw [hh] at ht; cases ht
    | some o =>
      rw [hh] at ht
      cases o with
      | cells cs e f =>
        simp only [Option.some.injEq] at ht
        subst ht
        exact ⟨e, f, rfl⟩
      | _ => cases ht
  have hlt : 22 < W.heap.size := (Array.getElem?_eq_some_iff.1 hh).1
  refine ⟨fun k => if hk : isSent k = true then (he k hk).choose else ⟨0, 0, none⟩, fun i j hi hj hne heq => ?_, ⟨fun g row hg => ?_, fun k hk => ?_, fun g v hg => ?_, fun g cs hg => ?_⟩⟩
  · have hi := sent_of hi
    have hj := sent_of hj
    simp only [dif_pos hi, dif_pos hj] at heq
    obtain ⟨_, ⟨s1, c1, t1⟩, _⟩ := (he i hi).choose_spec
    obtain ⟨_, ⟨s2, c2, t2⟩, _⟩ := (he j hj).choose_spec
    rw [heq, c2] at c1
    cases c1
    exact hne (txt_inj i hi j hj (t1.symm.trans t2))
  · have hg : GX g = some row := hg
    unfold GX at hg
    split at hg
    · rename_i hlt
      cases hg
      refine sent_rel ?_
      simp only [dif_pos hlt]
      exact (he g hlt).choose_spec.1
    · split at hg
      · rename_i e
        subst e
        cases hg
        exact .iptr [] 0 20 0 (fun _ => .nilIface) (block_lt hz) (fun c hc => by simp at hc) (fun j c hj => by simp at hj) (fun j c hj => by simp at hj)
      · split at hg
        · rename_i e
          subst e
          cases hg
          exact .iptr [] 0 22 0 (fun _ => .nilIface) hlt (fun c hc => by simp at hc) (fun j c hj => by simp at hj) (fun j c hj => by simp at hj)
        · cases hg
  · have hk := sent_of hk
    simp only [dif_pos hk]
    obtain ⟨cs, t, hh⟩ := (he k hk).choose_spec.2.2
    exact ⟨(Array.getElem?_eq_some_iff.1 hh).1, cs, t, hh⟩
  · have hg : (if g = 20 ∧ handOf GX = true then some (Value.iface 294 (.agg #[.pointer (some ⟨25, 69, none⟩)])) else none) = some v := hg
    split at hg
    · rename_i e
      obtain ⟨rfl, _⟩ := e
      cases hg
      exact ⟨block_lt hz, hz⟩
    · cases hg
  · have hg : (if g = 22 ∧ tabOf GX = true then some powTab else none) = some cs := hg
    split at hg
    · rename_i e
      obtain ⟨rfl, _⟩ := e
      cases hg
      exact ⟨hlt, ce, cf, hh⟩
    · cases hg

noncomputable def lowX : Nat := (World.holding Tryd.prog default ⟨#[], #[], []⟩).heap.size
def posX (i : Nat) : Option Nat := if i = 0 then some 0 else if i = 1 then some 1 else if i = 2 then some 2 else if i = 3 then some 3 else if i = 4 then some 4 else if i = 5 then some 5 else if i = 6 then some 6 else if i = 7 then some 7 else if i = 8 then some 8 else if i = 9 then some 9 else if i = 10 then some 10 else if i = 11 then some 11 else if i = 12 then some 12 else if i = 13 then some 13 else if i = 14 then some 14 else if i = 15 then some 15 else if i = 16 then some 16 else if i = 17 then some 17 else if i = 18 then some 18 else if i = 19 then some 19 else none
/-- A world in which all are laid. -/
noncomputable def laidWorldX (os : Os) : World :=
  let w0 := World.holding Tryd.prog os ⟨(([0, 1, 2, 3, 4, 5, 6, 7, 8, 9, 10, 11, 12, 13, 14, 15, 16, 17, 18, 19] : List Nat).map fun g => Obj.cells #[.string ⟨(txt g).toArray⟩] 360 (0, 0)).toArray, #[], []⟩
  { w0 with heap := ((List.range w0.heap.size).map fun i => match w0.heap.getD i default with
      | .cells cs t frozen => (match posX i with | some k => .cells #[.iface 341 (.pointer (some ⟨lowX + k, 0, none⟩))] t frozen | none => if i = 20 then .cells #[.iface 294 (.agg #[.pointer (some ⟨25, 69, none⟩)])] t frozen else if i = 23 then .cells #[.int .u8 0, .int .u8 1, .int .u8 28, .int .u8 2, .int .u8 29, .int .u8 14, .int .u8 24, .int .u8 3, .int .u8 30, .int .u8 22, .int .u8 20, .int .u8 15, .int .u8 25, .int .u8 17, .int .u8 4, .int .u8 8, .int .u8 31, .int .u8 27, .int .u8 13, .int .u8 23, .int .u8 21, .int .u8 19, .int .u8 16, .int .u8 7, .int .u8 26, .int .u8 12, .int .u8 18, .int .u8 6, .int .u8 11, .int .u8 5, .int .u8 10, .int .u8 9] t frozen else if i = 24 then .cells #[.int .u8 0, .int .u8 1, .int .u8 56, .int .u8 2, .int .u8 57, .int .u8 49, .int .u8 28, .int .u8 3, .int .u8 61, .int .u8 58, .int .u8 42, .int .u8 50, .int .u8 38, .int .u8 29, .int .u8 17, .int .u8 4, .int .u8 62, .int .u8 47, .int .u8 59, .int .u8 36, .int .u8 45, .int .u8 43, .int .u8 51, .int .u8 22, .int .u8 53, .int .u8 39, .int .u8 33, .int .u8 30, .int .u8 24, .int .u8 18, .int .u8 12, .int .u8 5, .int .u8 63, .int .u8 55, .int .u8 48, .int .u8 27, .int .u8 60, .int .u8 41, .int .u8 37, .int .u8 16, .int .u8 46, .int .u8 35, .int .u8 44, .int .u8 21, .int .u8 52, .int .u8 32, .int .u8 23, .int .u8 11, .int .u8 54, .int .u8 26, .int .u8 40, .int .u8 15, .int .u8 34, .int .u8 20, .int .u8 31, .int .u8 10, .int .u8 25, .int .u8 14, .int .u8 19, .int .u8 9, .int .u8 13, .int .u8 8, .int .u8 7, .int .u8 6] t frozen else if i = 22 then .cells #[.int .u64 1, .int .u64 10, .int .u64 100, .int .u64 1000, .int .u64 10000, .int .u64 100000, .int .u64 1000000, .int .u64 10000000, .int .u64 100000000, .int .u64 1000000000, .int .u64 10000000000, .int .u64 100000000000, .int .u64 1000000000000, .int .u64 10000000000000, .int .u64 100000000000000, .int .u64 1000000000000000, .int .u64 10000000000000000, .int .u64 100000000000000000, .int .u64 1000000000000000000, .int .u64 10000000000000000000] t frozen else .cells cs t frozen)
      | o => o).toArray }
set_option maxRecDepth 100000 in
theorem laid_metX (os : Os) (args : Array Value) : laidMetH Tryd.prog laidX ((laidWorldX os).forCall (fun _ _ => 0) ⟨#[], args, []⟩).memory :=
  laidMetH_of_parts (laidMet_of_run' 8 (by kernel_rfl) (by kernel_rfl)) (by kernel_rfl)
end Go.Proofs.YtoogammidjhfgaaDoor
