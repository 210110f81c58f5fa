/-
  The listed variables: sentinel errors. By an AI agent; no person has read it.
-/
import Derived.Test.YtjjiphigolegbaaDoorFvRow
import Derived.LaidLaws
set_option linter.unusedVariables false
set_option linter.unusedSimpArgs false
set_option linter.unusedSectionVars false
/-! The listed variables: sentinel errors. -/
namespace Go.Fv
open Go

section
variable {P : Program} {W : World}

theorem laid_mem : ∀ {laid : List (String × DataW Unit)} {ps : List MemPlace}, DataW.LaidVars P W laid ps → ∀ x ∈ laid,
    ∃ g t cs fuel p, P.globalNamed x.1 = some g ∧ (P.globals[g]?).map (·.type) = some t ∧ W.var? P x.1 = some cs ∧ DataW.trod (fun _ => ()) P W 0 (fun _ => true) false fuel t cs.toList = some (x.2, p) ∧ (∀ y ∈ MemPlace.row ⟨g, 0, none⟩ cs.size, y ∈ ps) ∧ ∀ y ∈ p, y ∈ ps
  | (n, d) :: r, ps, h, x, hx => by
    obtain ⟨g, t, cs, fuel, p, q, h1, h2, h3, h4, h5, h6⟩ := h
    rcases List.mem_cons.1 hx with rfl | hx
    · exact ⟨g, t, cs, fuel, p, h1, h2, h3, h4, fun y hy => by rw [h6]; exact List.mem_append_left _ (List.mem_append_left _ hy), fun y hy => by rw [h6]; exact List.mem_append_left _ (List.mem_append_right _ hy)⟩
    · obtain ⟨g', t', cs', f', p', q1, q2, q3, q4, q5, q6⟩ := laid_mem h5 x hx
      exact ⟨g', t', cs', f', p', q1, q2, q3, q4, fun y hy => by rw [h6]; exact List.mem_append_right _ (q5 y hy), fun y hy => by rw [h6]; exact List.mem_append_right _ (q6 y hy)⟩

/-- A sentinel's cell. -/
theorem sentinel_cell {laid : List (String × DataW Unit)} (hm : laidMet P laid W) {name : String} {text : List UInt8} (hx : (name, DataW.iface "*errors.errorString" (.ptr (.agg [.lit (.string text)]))) ∈ laid)
    {g : Nat} {ti tp te ts : TypeId} {ms : Array (String × TypeId)} {f : Field} (hg : P.globalNamed name = some g) (ht : (P.globals[g]?).map (·.type) = some ti)
    (hi : P.underlying ti = some (.interface ms)) (hrow : ∀ u, P.typeName? 3 u = some "*errors.errorString" → u = tp)
    (hp : P.underlying tp = some (.pointer te)) (he : P.underlying te = some (.struct #[f])) (hft : f.type = ts) (hfo : f.offset = 0) (hs : P.underlying ts = some .string) (hc : P.cellsOf te = 1) (hcs : P.cellsOf ts = 1) :
    ∃ a, W.cell? ⟨g, 0, none⟩ = some (.iface tp (.pointer (some a))) ∧ (∃ s : ByteArray, W.cell? a = some (.string s) ∧ s.data.toList = text) ∧ ∃ cs t, W.heap[a.block]? = some (Obj.cells cs t (0, 0)) := by
  obtain ⟨ps, hl, _, hps⟩ := hm
  obtain ⟨g', t', cs, fuel, p, q1, q2, q3, q4, q5, q6⟩ := laid_mem hl _ hx
  rw [hg] at q1; injection q1 with q1; subst q1
  rw [ht] at q2; injection q2 with q2; subst q2
  have hcell : ∀ i, W.cell? ⟨g, i, none⟩ = cs[i]? := fun i => by simpa using World.var?_cell hg q3 i
  obtain ⟨a, s, e1, e2, e3, _, e5⟩ := errorString_of_trod hi hrow hp he hft hfo hs hc hcs q4 (fun u v hcs' => by
    have hsz : cs.size = 1 := by rw [← Array.length_toList, hcs']; rfl
    have hmem : MemPlace.cell g 0 ∈ ps := q5 _ (by rw [hsz]; simp [MemPlace.row])
    refine (hps g 0 hmem).2 u v ?_
    rw [hcell 0, ← Array.getElem?_toList, hcs']; rfl)
  refine ⟨a, by rw [hcell 0, ← Array.getElem?_toList, e1]; rfl, ⟨s, e2, e3⟩, ?_⟩
  have hm : MemPlace.cell a.block a.off ∈ ps := q6 _ (by rw [e5]; simp [MemPlace.row])
  exact (hps _ _ hm).1
end
end Go.Fv
