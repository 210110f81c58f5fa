/-
  The law ReadyFires, run to its end. By an AI agent; no person has read it.
-/
import Derived.Test.YtjjiphigolegbabGreatDoorFvSqD
set_option linter.unusedVariables false
set_option linter.unusedSimpArgs false
set_option linter.unusedSectionVars false
/-! The law ReadyFires, run to its end. -/
namespace Go.Fv.Tr
open Go Go.Fv Go.Fv.Pl Go.Proofs
set_option linter.unusedSimpArgs false
set_option linter.unusedVariables false
variable {G : Nat → Option (List V)}

theorem wakes_in {r : Pr → Int} : ∀ {l : List Int} {t : Tab} {m : Int} {q : Pr}, (∀ n ∈ l, 0 ≤ n) → l.Nodup → m ∈ l → at? t.ps m = some q → at? (t.wakes r l).ps m = some (wakeP (r q) q)
  | n :: l, t, m, q, h0, hn, hm, hq => by
    have hn' := List.nodup_cons.1 hn
    by_cases e : m = n
    · subst e
      rw [Tab.wakes, wakes_at (fun a ha => h0 a (by simp [ha])) hn'.1, Tab.wake, at?_set (h0 m (by simp)), if_pos rfl, hq]
      rfl
    · rw [Tab.wakes]
      refine wakes_in (fun a ha => h0 a (by simp [ha])) hn'.2 ((List.mem_cons.1 hm).resolve_left e) ?_
      rw [Tab.wake, at?_set (h0 n (by simp)), if_neg e, hq]
theorem pr_reg1 {p : Pr} (h : Wp p) (r1 : Int) : (prRow (wakeP r1 p))[1]? = some (.int .u32 r1) := by
  obtain ⟨a0, a1, a2, a3, a4, a5, a6, a7, a8, a9, a10, a11, a12, a13, a14, a15, hregs⟩ := len16 h
  unfold prRow wakeP
  rw [hregs]
  rfl
theorem _root_.Go.Fv.Own.thawQ {H : Heap} {x : V} {sz : Nat} {rows : List (List V)} (h : Own H x sz rows) (hf : flatRows rows = true) :
    ∃ y, Sls y sz rows ∧ ∀ (v : Nat → Bool) (n f : Nat), (∀ l, loc x = some l → v l = true) → thawV true ⟨fun l => if v l then H.blk l else none, n, f⟩ x = some y := by
  rcases h with ⟨rfl | rfl, rfl⟩ | ⟨l, n, c, ex, b, rfl, h1, h2, h3, h4, h5, rfl⟩
  · exact ⟨.nils, Sls.nils _, fun _ _ _ _ => rfl⟩
  · exact ⟨.emp, Sls.emp _, fun _ _ _ _ => rfl⟩
  · refine ⟨.imm sz (b.rows.take n), Sls.imm _ _, fun v _ _ hv => ?_⟩
    have : n ≤ b.rows.length := by omega
    simp [Fv.thawV, Fv.thaw, h1, this, hf, hv l rfl]
end Go.Fv.Tr
