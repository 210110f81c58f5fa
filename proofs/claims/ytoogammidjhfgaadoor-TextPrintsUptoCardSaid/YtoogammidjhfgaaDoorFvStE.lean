/-
  The law about Check. By an AI agent; no person has read it.
-/
import Derived.Test.YtoogammidjhfgaaDoorFvStD
import Derived.Test.YtoogammidjhfgaaDoorFvEv
import Derived.Test.YtoogammidjhfgaaDoorFvGx
import Derived.RowKitTokens
set_option linter.unusedVariables false
set_option linter.unusedSimpArgs false
set_option linter.unusedSectionVars false
/-! The law about Check. -/
namespace Go.Fv.Tr
open Go Go.Fv Go.Proofs
set_option linter.unusedSimpArgs false
set_option linter.unusedVariables false

theorem glob_arg : glob (cfg GX) 10 = .iptr [errA] 0 := by kernel_rfl
set_option maxRecDepth 100000 in
theorem awakeX : playsTrue (cfg GX) 50 10 26 [] = true := by kernel_rfl
set_option maxRecDepth 100000 in
theorem codeX (k : Int) : (semC (cfg GX) 50 10 31 [.iface 186 (.iptr [iV k, errA] 0)] Heap.empty).map Prod.fst = some (.int .i64 12) := by kernel_rfl
set_option maxRecDepth 100000 in
theorem placeX (k : Int) : (semC (cfg GX) 50 10 32 [.iface 186 (.iptr [iV k, errA] 0)] Heap.empty).map Prod.fst = some (iV k) := by kernel_rfl

theorem run_of_plays {C : Cfg} {fuel n : Nat} {f : FuncId} {args : List V} {r : V} (h : (semC C fuel n f args Heap.empty).map Prod.fst = some r) : Run (sem C n f args) Heap.empty fun v _ => v = r := by
  cases e : semC C fuel n f args Heap.empty with
  | none => rw [e] at h; cases h
  | some x =>
    rw [e] at h
    exact ⟨x.1, x.2, sem_le fuel n f args _ _ e, Option.some.inj h⟩
theorem Run.callSeen {C : Cfg} {call : FuncId → List V → M V} {f : FuncId} {args bs : List V} {r : V} {Q : V → Heap → Prop} {H : Heap} (hk : C.kind f = .pure) (hm : args.mapM (thawV true H) = some bs)
    (hr : Run (call f bs) Heap.empty fun v _ => v = r) (hc : ∀ ok H', thawV ok H' r = some r) (q : Q r H) : Run (callV C call f args) H Q := by
  obtain ⟨v, H', e, rfl⟩ := hr
  refine ⟨v, H, ?_, q⟩
  simp only [callV, hk, callP, hm, Option.bind_some, e, hc]
  rfl
theorem thaw_i (ok : Bool) (H : Heap) (k : Int) : thawV ok H (iV k) = some (iV k) := by simp [thawV, Fv.thaw, V.flat]

theorem awake_eq : callV (cfg GX) (sem (cfg GX) 10) 26 [] = M.ret (.bool true) :=
  callV_pure0 rfl rfl rfl (by
    obtain ⟨H', h⟩ := plays_true awakeX
    exact ⟨_, H', h, rfl⟩)
theorem seen_at {H : Heap} {lb : Nat} {k : Int} (h : H.blk lb = some ⟨2, [[iV k, errA]]⟩) : [V.iface 186 (.ptr lb 0 0)].mapM (thawV true H) = some [.iface 186 (.iptr [iV k, errA] 0)] := by
  have : thawV true H (V.iface 186 (.ptr lb 0 0)) = some (.iface 186 (.iptr [iV k, errA] 0)) := by
    show Fv.thaw true H (V.iface 186 (.ptr lb 0 0)) = _
    simp only [Fv.thaw, h, Option.bind_some, List.getElem?_cons_zero]
    rfl
  simp [this]
theorem code_at {H : Heap} {lb : Nat} {k : Int} {Q : V → Heap → Prop} (h : H.blk lb = some ⟨2, [[iV k, errA]]⟩) (q : Q (.int .i64 12) H) : Run (callV (cfg GX) (sem (cfg GX) 10) 31 [.iface 186 (.ptr lb 0 0)]) H Q :=
  Run.callSeen rfl (seen_at h) (run_of_plays (codeX k)) (fun ok H' => thaw_i ok H' 12) q
theorem place_at {H : Heap} {lb : Nat} {k : Int} {Q : V → Heap → Prop} (h : H.blk lb = some ⟨2, [[iV k, errA]]⟩) (q : Q (iV k) H) : Run (callV (cfg GX) (sem (cfg GX) 10) 32 [.iface 186 (.ptr lb 0 0)]) H Q :=
  Run.callSeen rfl (seen_at h) (run_of_plays (placeX k)) (fun ok H' => thaw_i ok H' k) q

def sc1 : Sc := ⟨0, [], [1], [], [], 0, [], []⟩
abbrev hs1 : V := .ref 1 1 0 1 1 true
abbrev l1 : List V := [iV 0, .nils, hs1, .nils, .nils, iV 0, .nils, .nils]
theorem bc1 : buildV [.int .i64 0, .nils, .nils, .nils, .nils, .int .i64 0] [(2, 1, hs1)] = some (.agg [iV 0, .nils, hs1, .nils, .nils, iV 0]) := rfl
theorem bc2 : buildV [.int .i64 0, .nils, .nils, .nils, .nils, .int .i64 0, .nils, .nils] [(0, 6, .agg [iV 0, .nils, hs1, .nils, .nils, iV 0])] = some (.agg l1) := rfl
theorem scr1 (l : List V) : ScR ((Heap.empty.add ⟨l.length, [l]⟩).add ⟨1, [[iV 1]]⟩) l1 sc1 .nils hs1 .nils .nils .nils .nils [] :=
  ⟨rfl, .sls (.inr ⟨rfl, .inl rfl⟩), .inr ⟨1, 0, 1, 1, true, ⟨1, [[iV 1]]⟩, rfl, by rw [Heap.add_blk]; exact if_pos rfl, Nat.lt_succ_self _, Nat.le_refl _, rfl⟩, .sls (.inr ⟨rfl, .inl rfl⟩), .sls (.inr ⟨rfl, .inl rfl⟩), .sls (.inr ⟨rfl, .inl rfl⟩), .sls (.inr ⟨rfl, .inl rfl⟩), rfl,
    fun j hj => absurd hj (Nat.not_lt_zero _), Nat.zero_le _, fun p hp => by cases hp⟩
theorem chk1 : chk sc1 = some 0 := rfl
theorem nn_nil : eqV .iface true .nili .nili = some true := rfl
end Go.Fv.Tr
