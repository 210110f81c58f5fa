/-
  strings.Join by the library's contract. By an AI agent; no person has read it.
-/
import Derived.Test.YtgcjnpfidjfmmaaDoorFvW6
import Derived.Shelf.Strings.OnBuilder
set_option linter.unusedVariables false
set_option linter.unusedSimpArgs false
set_option linter.unusedSectionVars false
/-! strings.Join by the library's contract. -/
namespace Go.Proofs.YtgcjnpfidjfmmaaDoor
open Go Go.Fv Go.Fv.Tr Go.ChangeShapes Go.WideShapes Go.RowKit Go.Shelf

def renJ : Ren :=
{
  f := fun x =>
    match x with
    | 156 => 24
    | 165 => 42
    | 166 => 43
    | 169 => 44
    | 240 => 54
    | 241 => 55
    | 276 => 57
    | 277 => 58
    | n => n,
  t := fun x =>
    match x with
    | 31 => 64
    | 9 => 9
    | 3 => 3
    | 4 => 4
    | 0 => 0
    | 20 => 20
    | 72 => 106
    | 76 => 108
    | 70 => 104
    | 37 => 77
    | 75 => 35
    | 127 => 132
    | 164 => 83
    | 5 => 5
    | 80 => 110
    | n => n,
  g := fun x =>
    have n := x;
    n }
set_option maxRecDepth 100000 in
theorem laysJ : Lays.n156 Tryd.prog renJ :=
  {
    mixed := by kernel_rfl,
    f156 := Tryd.func24.trans (congrArg some (by kernel_rfl)),
    f165 := Tryd.func42.trans (congrArg some (by kernel_rfl)),
    f166 := Tryd.func43.trans (congrArg some (by kernel_rfl)),
    f169 := Tryd.func44.trans (congrArg some (by kernel_rfl)),
    f240 := Tryd.func54.trans (congrArg some (by kernel_rfl)),
    f241 := Tryd.func55.trans (congrArg some (by kernel_rfl)),
    f276 := Tryd.func57.trans (congrArg some (by kernel_rfl)),
    f277 := Tryd.func58.trans (congrArg some (by kernel_rfl)),
    t0 := Tryd.underlying0,
    a0 := Tryd.isAgg0,
    z0 := Tryd.sizeOf0,
    v0 := Tryd.zeroValue0,
    t3 := Tryd.underlying3,
    a3 := Tryd.isAgg3,
    z3 := Tryd.sizeOf3,
    v3 := Tryd.zeroValue3,
    t4 := Tryd.underlying4,
    a4 := Tryd.isAgg4,
    z4 := Tryd.sizeOf4,
    v4 := Tryd.zeroValue4,
    t9 := Tryd.underlying9,
    a9 := Tryd.isAgg9,
    z9 := Tryd.sizeOf9,
    v9 := Tryd.zeroValue9,
    t20 := Tryd.underlying20,
    a20 := Tryd.isAgg20,
    z20 := Tryd.sizeOf20,
    v20 := Tryd.zeroValue20,
    t31 := Tryd.underlying64,
    a31 := Tryd.isAgg64,
    z31 := Tryd.sizeOf64,
    v31 := Tryd.zeroValue64,
    t37 := Tryd.underlying77,
    a37 := Tryd.isAgg77,
    z37 := Tryd.sizeOf77,
    v37 := Tryd.zeroValue77,
    t70 := Tryd.underlying104,
    a70 := Tryd.isAgg104,
    z70 := Tryd.sizeOf104,
    v70 := Tryd.zeroValue104,
    t72 := Tryd.underlying106,
    a72 := Tryd.isAgg106,
    z72 := Tryd.sizeOf106,
    v72 := Tryd.zeroValue106,
    t75 := Tryd.underlying35,
    a75 := Tryd.isAgg35,
    z75 := Tryd.sizeOf35,
    v75 := Tryd.zeroValue35,
    t76 := Tryd.underlying108,
    a76 := Tryd.isAgg108,
    z76 := Tryd.sizeOf108,
    v76 := Tryd.zeroValue108,
    t127 := Tryd.underlying132,
    a127 := Tryd.isAgg132,
    z127 := Tryd.sizeOf132,
    v127 := Tryd.zeroValue132,
    t164 := Tryd.underlying83,
    a164 := Tryd.isAgg83,
    z164 := Tryd.sizeOf83,
    v164 := Tryd.zeroValue83 }
set_option maxRecDepth 100000 in
theorem extraJ : Builder.Extra Tryd.prog renJ where
  sizeBuilder := by kernel_rfl
  liesBuilder := by kernel_rfl
  t5 := Tryd.underlying5
  a5 := Tryd.isAgg5
  z5 := Tryd.sizeOf5
  v5 := Tryd.zeroValue5
  infoByte := by kernel_rfl
  cellsByte := by kernel_rfl
  sizeByte := by kernel_rfl
  neB5 := by decide

theorem _root_.Go.Fv.Inv.below {σ : Nat → Addr} {K : Ctx} {H : Heap} {w w' : World} (inv : Fv.Inv σ K H w) (h : Below w.heap.size w w') : Fv.Inv σ K H w' ∧ Evo K H w K H w' := by
  have hlt : ∀ (b : Nat) o, w.heap[b]? = some o → b < w.heap.size := fun b o h => (Array.getElem?_eq_some_iff.1 h).1
  have evo : Evo K H w K H w' := {
    I := fun _ h => h
    ρ := fun _ _ => rfl
    D := fun _ h => h
    nx := Nat.le_refl _
    floor := rfl
    low := fun _ _ _ => rfl
    frame := fun b hb _ => h.block b hb
    shape := fun b cs' e f hh => ⟨cs', f, (h.block b (hlt _ _ hh)).trans hh, rfl⟩
    size := h.size
    os := h.os
    tape := h.tape
    output := h.output
    range := fun l B h _ => ⟨l, B, h, rfl, .inl rfl⟩
    newI := fun _ h _ => h
    newD := fun _ h _ => h }
  have mv := inv.moves evo
  refine ⟨⟨inv.nx, inv.dom, inv.flo, fun l B hB => ?_, inv.inj, fun b hb => Nat.lt_of_lt_of_le (inv.imm b hb) evo.size⟩, evo⟩
  have h0 := inv.blk l B hB
  obtain ⟨cs0, e0, h1, h2, h3⟩ := h0.at_
  refine ⟨h0.lt, h0.sz, h0.own, h0.rows, cs0, e0, h1.same (h.block _ h1.lt), h2, ?_⟩
  intro i r j c hi hj
  obtain ⟨h4, x, h5, h6⟩ := h3 i r j c hi hj
  exact ⟨h4, x, h5, h6.mono mv⟩

theorem strs_of : ∀ (rows : List (List V)) (l : List ByteArray), rows.mapM strOf = some l → rows = l.map fun s => [V.str s]
  | [], l, h => by
    have : l = [] := by simpa using h.symm
    rw [this]; rfl
  | r :: rows, l, h => by
    rw [List.mapM_cons] at h
    cases e : strOf r with
    | none => rw [e] at h; cases h
    | some s =>
      rw [e] at h
      cases e2 : rows.mapM strOf with
      | none => rw [e2] at h; cases h
      | some l' =>
        rw [e2] at h
        have hl : l = s :: l' := (Option.some.inj h).symm
        rw [hl, List.map_cons, ← strs_of rows l' e2]
        congr 1
        unfold strOf at e
        split at e
        · cases e; rfl
        · cases e

theorem join_sound {G : Nat → Option (List V)} {σ : Nat → Addr} : SoundF (cfg G) σ 24 fun args => M.lift (extX G 24 args) := by
  intro K H w vs xs v H' inv gl ar h
  refine ⟨callable Tryd.func24 (by kernel_rfl) (by kernel_rfl), ?_⟩
  have h0 : extX G 24 vs = joinX vs := rfl
  have hx : joinX vs = some v ∧ H' = H := by
    rw [← h0]
    cases e : extX G 24 vs with
    | none => simp only [M.lift, e] at h; cases h
    | some u => simp only [M.lift, e, Option.bind_some] at h; cases h; exact ⟨rfl, rfl⟩
  obtain ⟨hx, rfl⟩ := hx
  unfold joinX at hx
  split at hx
  · rename_i rows sep
    cases hm : rows.mapM strOf with
    | none => rw [hm] at hx; cases hx
    | some l =>
      rw [hm] at hx
      simp only [Option.bind_some] at hx
      split at hx
      · rename_i hc
        obtain ⟨hne, hN, hlen⟩ := hc
        cases hx
        have hr := strs_of rows l hm
        obtain ⟨x, y, rfl, r1, r2⟩ := args2 ar
        cases r2
        cases r1 with
        | imm0 => exact absurd rfl hne
        | imm _ _ b off cap val hI hcap hs hcl hw hv =>
          have hll : rows.length = l.length := by rw [hr, List.length_map]
          have hcells : ∀ (j : Nat) s, l[j]? = some s → w.cell? ⟨b, off + j, none⟩ = some (.string s) := fun j s hj => by
            have h1 : rows[j]? = some [V.str s] := by rw [hr, List.getElem?_map, hj]; rfl
            have h2 := hw j [V.str s] 0 (V.str s) h1 rfl
            have h3 := hv j [V.str s] 0 (V.str s) h1 rfl
            have h4 : val j 0 = .string s := by
              generalize val j 0 = z at h3
              cases h3; rfl
            rw [h4] at h2
            simpa using h2
          rw [hll]
          refine (Any.strings_Join laysJ extraJ b off cap l sep w hcells (inv.imm b hI) (by omega) (by omega) hlen).mono ?_
          rintro e w' ⟨rfl, hb⟩
          obtain ⟨i1, e1⟩ := inv.below hb
          exact ⟨_, rfl, K, .str _, i1, e1⟩
      · cases hx
  · cases hx
end Go.Proofs.YtgcjnpfidjfmmaaDoor
