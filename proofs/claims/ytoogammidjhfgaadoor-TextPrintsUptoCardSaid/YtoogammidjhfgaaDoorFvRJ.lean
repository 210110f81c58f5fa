/-
  strings.Join by the library's contract. By an AI agent; no person has read it.
-/
import Derived.Test.YtoogammidjhfgaaDoorFvW6
import Derived.Shelf.Strings.OnBuilder
set_option linter.unusedVariables false
set_option linter.unusedSimpArgs false
set_option linter.unusedSectionVars false
/-! strings.Join by the library's contract. -/
namespace Go.Proofs.YtoogammidjhfgaaDoor
open Go Go.Fv Go.Fv.Tr Go.ChangeShapes Go.WideShapes Go.RowKit Go.Shelf

def renJ : Ren :=
{
  f := fun x =>
    match x with
    | 156 => 84
    | 165 => 139
    | 166 => 126
    | 169 => 72
    | 240 => 172
    | 241 => 175
    | 276 => 195
    | 277 => 197
    | n => n,
  t := fun x =>
    match x with
    | 31 => 124
    | 9 => 9
    | 3 => 3
    | 4 => 4
    | 0 => 0
    | 20 => 20
    | 72 => 143
    | 76 => 120
    | 70 => 140
    | 37 => 141
    | 75 => 69
    | 127 => 239
    | 164 => 257
    | 5 => 5
    | 80 => 158
    | n => n,
  g := fun x =>
    have n := x;
    n }
set_option maxRecDepth 100000 in
theorem laysJ : Lays.n156 Tryd.prog renJ :=
  {
    mixed := by kernel_rfl,
    f156 := Tryd.func84.trans (congrArg some (by kernel_rfl)),
    f165 := Tryd.func139.trans (congrArg some (by kernel_rfl)),
    f166 := Tryd.func126.trans (congrArg some (by kernel_rfl)),
    f169 := Tryd.func72.trans (congrArg some (by kernel_rfl)),
    f240 := Tryd.func172.trans (congrArg some (by kernel_rfl)),
    f241 := Tryd.func175.trans (congrArg some (by kernel_rfl)),
    f276 := Tryd.func195.trans (congrArg some (by kernel_rfl)),
    f277 := Tryd.func197.trans (congrArg some (by kernel_rfl)),
    t0 := Tryd.underlying0,
    a0 := Tryd.isAgg0,
    z0 := Tryd.sizeOf0,
    v0 := Tryd.zeroValue0,
    t3 := Tryd.underlying3,
    a3 := Tryd.isAgg3,
    z3 := Tryd.sizeOf3,
    v3 := Tryd.zeroValue3,
    t4 := Tryd.underlying4,
    a4 := Tryd.isAgg4,
    z4 := Tryd.sizeOf4,
    v4 := Tryd.zeroValue4,
    t9 := Tryd.underlying9,
    a9 := Tryd.isAgg9,
    z9 := Tryd.sizeOf9,
    v9 := Tryd.zeroValue9,
    t20 := Tryd.underlying20,
    a20 := Tryd.isAgg20,
    z20 := Tryd.sizeOf20,
    v20 := Tryd.zeroValue20,
    t31 := Tryd.underlying124,
    a31 := Tryd.isAgg124,
    z31 := Tryd.sizeOf124,
    v31 := Tryd.zeroValue124,
    t37 := Tryd.underlying141,
    a37 := Tryd.isAgg141,
    z37 := Tryd.sizeOf141,
    v37 := Tryd.zeroValue141,
    t70 := Tryd.underlying140,
    a70 := Tryd.isAgg140,
    z70 := Tryd.sizeOf140,
    v70 := Tryd.zeroValue140,
    t72 := Tryd.underlying143,
    a72 := Tryd.isAgg143,
    z72 := Tryd.sizeOf143,
    v72 := Tryd.zeroValue143,
    t75 := Tryd.underlying69,
    a75 := Tryd.isAgg69,
    z75 := Tryd.sizeOf69,
    v75 := Tryd.zeroValue69,
    t76 := Tryd.underlying120,
    a76 := Tryd.isAgg120,
    z76 := Tryd.sizeOf120,
    v76 := Tryd.zeroValue120,
    t127 := Tryd.underlying239,
    a127 := Tryd.isAgg239,
    z127 := Tryd.sizeOf239,
    v127 := Tryd.zeroValue239,
    t164 := Tryd.underlying257,
    a164 := Tryd.isAgg257,
    z164 := Tryd.sizeOf257,
    v164 := Tryd.zeroValue257 }
set_option maxRecDepth 100000 in
theorem extraJ : Builder.Extra Tryd.prog renJ where
  sizeBuilder := by kernel_rfl
  liesBuilder := by kernel_rfl
  t5 := Tryd.underlying5
  a5 := Tryd.isAgg5
  z5 := Tryd.sizeOf5
  v5 := Tryd.zeroValue5
  infoByte := by kernel_rfl
  cellsByte := by kernel_rfl
  sizeByte := by kernel_rfl
  neB5 := by decide

theorem _root_.Go.Fv.Inv.below {σ : Nat → Addr} {K : Ctx} {H : Heap} {w w' : World} (inv : Fv.Inv σ K H w) (h : Below w.heap.size w w') : Fv.Inv σ K H w' ∧ Evo K H w K H w' := by
  have hlt : ∀ (b : Nat) o, w.heap[b]? = some o → b < w.heap.size := fun b o h => (Array.getElem?_eq_some_iff.1 h).1
  have evo : Evo K H w K H w' := {
    I := fun _ h => h
    ρ := fun _ _ => rfl
    D := fun _ h => h
    nx := Nat.le_refl _
    floor := rfl
    low := fun _ _ _ => rfl
    frame := fun b hb _ => h.block b hb
    shape := fun b cs' e f hh => ⟨cs', f, (h.block b (hlt _ _ hh)).trans hh, rfl⟩
    size := h.size
    os := h.os
    tape := h.tape
    output := h.output
    range := fun l B h _ => ⟨l, B, h, rfl, .inl rfl⟩
    newI := fun _ h _ => h
    newD := fun _ h _ => h }
  have mv := inv.moves evo
  refine ⟨⟨inv.nx, inv.dom, inv.flo, fun l B hB => ?_, inv.inj, fun b hb => Nat.lt_of_lt_of_le (inv.imm b hb) evo.size⟩, evo⟩
  have h0 := inv.blk l B hB
  obtain ⟨cs0, e0, h1, h2, h3⟩ := h0.at_
  refine ⟨h0.lt, h0.sz, h0.own, h0.rows, cs0, e0, h1.same (h.block _ h1.lt), h2, ?_⟩
  intro i r j c hi hj
  obtain ⟨h4, x, h5, h6⟩ := h3 i r j c hi hj
  exact ⟨h4, x, h5, h6.mono mv⟩

theorem strs_of : ∀ (rows : List (List V)) (l : List ByteArray), rows.mapM strOf = some l → rows = l.map fun s => [V.str s]
  | [], l, h => by
    have : l = [] := by simpa using h.symm
    rw [this]; rfl
  | r :: rows, l, h => by
    rw [List.mapM_cons] at h
    cases e : strOf r with
    | none => rw [e] at h; cases h
    | some s =>
      rw [e] at h
      cases e2 : rows.mapM strOf with
      | none => rw [e2] at h; cases h
      | some l' =>
        rw [e2] at h
        have hl : l = s :: l' := (Option.some.inj h).symm
        rw [hl, List.map_cons, ← strs_of rows l' e2]
        congr 1
        unfold strOf at e
        split at e
        · cases e; rfl
        · cases e

theorem join_sound {G : Nat → Option (List V)} {σ : Nat → Addr} : SoundF (cfg G) σ 84 fun args => M.lift (extX G 84 args) := by
  intro K H w vs xs v H' inv gl ar h
  refine ⟨callable Tryd.func84 (by kernel_rfl) (by kernel_rfl), ?_⟩
  have h0 : extX G 84 vs = joinX vs := rfl
  have hx : joinX vs = some v ∧ H' = H := by
    rw [← h0]
    cases e : extX G 84 vs with
    | none => simp only [M.lift, e] at h; cases h
    | some u => simp only [M.lift, e, Option.bind_some] at h; cases h; exact ⟨rfl, rfl⟩
  obtain ⟨hx, rfl⟩ := hx
  unfold joinX at hx
  split at hx
  · rename_i rows sep
    cases hm : rows.mapM strOf with
    | none => rw [hm] at hx; cases hx
    | some l =>
      rw [hm] at hx
      simp only [Option.bind_some] at hx
      split at hx
      · rename_i hc
        obtain ⟨hne, hN, hlen⟩ := hc
        cases hx
        have hr := strs_of rows l hm
        obtain ⟨x, y, rfl, r1, r2⟩ := args2 ar
        cases r2
        cases r1 with
        | imm0 => exact absurd rfl hne
        | imm _ _ b off cap val hI hcap hs hcl hw hv =>
          have hll : rows.length = l.length := by rw [hr, List.length_map]
          have hcells : ∀ (j : Nat) s, l[j]? = some s → w.cell? ⟨b, off + j, none⟩ = some (.string s) := fun j s hj => by
            have h1 : rows[j]? = some [V.str s] := by rw [hr, List.getElem?_map, hj]; rfl
            have h2 := hw j [V.str s] 0 (V.str s) h1 rfl
            have h3 := hv j [V.str s] 0 (V.str s) h1 rfl
            have h4 : val j 0 = .string s := by
              generalize val j 0 = z at h3
              cases h3; rfl
            rw [h4] at h2
            simpa using h2
          rw [hll]
          refine (Any.strings_Join laysJ extraJ b off cap l sep w hcells (inv.imm b hI) (by omega) (by omega) hlen).mono ?_
          rintro e w' ⟨rfl, hb⟩
          obtain ⟨i1, e1⟩ := inv.below hb
          exact ⟨_, rfl, K, .str _, i1, e1⟩
      · cases hx
  · cases hx
end Go.Proofs.YtoogammidjhfgaaDoor
