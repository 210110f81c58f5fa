/-
  Words of a text: bytes, rights; words made lines. By an AI agent; no person has read it.
-/
import Derived.Test.YtoogammidjhfgaaDoorFvSvA
set_option linter.unusedVariables false
set_option linter.unusedSimpArgs false
set_option linter.unusedSectionVars false
/-! Words of a text: bytes, rights; words made lines. -/
namespace Go.Fv.Tr
open Go Go.Fv Go.Proofs
set_option linter.unusedSimpArgs false
set_option linter.unusedVariables false
variable {G : Nat → Option (List V)}

theorem bs_ne {l : List UInt8} : ((bs l).toList == (bs []).toList) = decide (l = []) := by
  rw [bs_eqb]
  cases l <;> rfl
theorem thaw_s (ok : Bool) (H : Heap) (s : ByteArray) : thawV ok H (.str s) = some (.str s) := by simp [thawV, Fv.thaw, V.flat]
theorem mt_bs : (⟨#[]⟩ : ByteArray) = bs [] := rfl
theorem data_spec (n : Nat) {l : List UInt8} (hl : l.length * 2 ≤ room) : callV (cfg G) (sem (cfg G) (n + 2)) 82 [.str (bs l)] = M.ret (.str (bs (dataL l))) := by
  refine callV_pure0 rfl rfl rfl ?_
  rw [ferry_text_data_eq]
  simp only [ferry_text_data]
  by_cases h : l = []
  · subst h
    have e : ((bs []).toList == (bs []).toList) = true := by rw [bs_ne]; rfl
    (repeat' (first | (simp only [wp, extractV, exists_eq_left', if_true, if_false, ite_true, ite_false, reduceIte, Nat.reduceAdd, Nat.reduceLT, Nat.reduceLeDiff, Nat.reduceEqDiff, mt_bs, e]) | (with_reducible refine Run.gC ?_ ?_ <;> intro hb <;> try simp only [hb]) | (with_reducible refine Run.gG ?_ ?_ <;> intro hb <;> try simp only [hb]) | (with_reducible refine Run.gQ ?_ ?_ <;> intro hb <;> try simp only [hb])))
    rfl
  · have e : ((bs l).toList == (bs []).toList) = false := by rw [bs_ne]; exact decide_eq_false h
    (repeat' (first | (simp only [wp, extractV, exists_eq_left', if_true, if_false, ite_true, ite_false, reduceIte, Nat.reduceAdd, Nat.reduceLT, Nat.reduceLeDiff, Nat.reduceEqDiff, mt_bs, e, Run.newB']) | (with_reducible refine Run.gC ?_ ?_ <;> intro hb <;> try simp only [hb]) | (with_reducible refine Run.gG ?_ ?_ <;> intro hb <;> try simp only [hb]) | (with_reducible refine Run.gQ ?_ ?_ <;> intro hb <;> try simp only [hb])))
    have o : Own (Heap.empty.add ⟨1, byR l⟩) (.ref Heap.empty.next 1 0 l.length l.length false) 1 (byR l) := by
      have := Own.new (H := Heap.empty) (sz := 1) (Nat.le_refl _) (byR l) false
      rwa [byR_len] at this
    obtain ⟨y, _, ey, sy⟩ := o.rd.thaw (flat_byR l)
    have ey' : thawV true (Heap.empty.add ⟨1, byR l⟩) (.ref 0 1 0 l.length l.length false) = some y := ey
    refine Run.callSeen rfl (bs := [y]) (by simp only [List.mapM_cons, List.mapM_nil, ey']; rfl) (hex_run n hl sy) (fun ok H' => thaw_s ok H' _) ?_
    (repeat' (first | (simp only [wp, extractV, exists_eq_left', if_true, if_false, ite_true, ite_false, reduceIte, Nat.reduceAdd, Nat.reduceLT, Nat.reduceLeDiff, Nat.reduceEqDiff]) | (with_reducible refine Run.gC ?_ ?_ <;> intro hb <;> try simp only [hb]) | (with_reducible refine Run.gG ?_ ?_ <;> intro hb <;> try simp only [hb]) | (with_reducible refine Run.gQ ?_ ?_ <;> intro hb <;> try simp only [hb])))
    rw [dataL, if_neg h]

theorem byteI (b : UInt8) : convI .i64 (.int .u8 (b.toNat : Int)) = some (.int .i64 (b.toNat : Int)) := by
  have := u8_lt b
  have h : IntKind.i64.wrap (b.toNat : Int) = (b.toNat : Int) := Go.IntWalk.i64_in _ ⟨by omega, by omega⟩
  simp [convI, h]
theorem quo16 {m : Nat} (h : m < 256) : arithV .quo (.int .i64 (m : Int)) (.int .i64 16) = some (.int .i64 ((m / 16 : Nat) : Int)) := by
  have e : (m : Int).tdiv 16 = ((m / 16 : Nat) : Int) := by rw [Int.tdiv_eq_ediv_of_nonneg (by omega)]; rfl
  rw [arith_quo (by decide) (by rw [e]; omega) (by rw [e]; omega), e]
theorem rem16 {m : Nat} : arithV .rem (.int .i64 (m : Int)) (.int .i64 16) = some (.int .i64 ((m % 16 : Nat) : Int)) := by
  have e : (m : Int).tmod 16 = ((m % 16 : Nat) : Int) := by rw [Int.tmod_eq_emod_of_nonneg (by omega)]; rfl
  rw [arith_rem (by decide), e]
theorem refData_spec (n : Nat) {l : List UInt8} (hl : l.length * 2 ≤ room) : callV (cfg G) (sem (cfg G) (n + 2)) 90 [.str (bs l)] = M.ret (.str (bs (dataL l))) := by
  refine callV_pure0 rfl rfl rfl ?_
  rw [ferry_ferryref25_Data_eq]
  simp only [ferry_ferryref25_Data]
  have hr : room = 140737488355328 := rfl
  by_cases h : l = []
  · subst h
    have e : (((0 : Nat) : Int) == 0) = true := rfl
    (repeat' (first | (simp only [wp, extractV, exists_eq_left', if_true, if_false, ite_true, ite_false, reduceIte, Nat.reduceAdd, Nat.reduceLT, Nat.reduceLeDiff, Nat.reduceEqDiff, str_len, e]) | (with_reducible refine Run.gC ?_ ?_ <;> intro hb <;> try simp only [hb]) | (with_reducible refine Run.gG ?_ ?_ <;> intro hb <;> try simp only [hb]) | (with_reducible refine Run.gQ ?_ ?_ <;> intro hb <;> try simp only [hb])))
    rfl
  · have h0 : l.length ≠ 0 := fun e => h (List.length_eq_zero_iff.1 e)
    have e : ((l.length : Int) == 0) = false := beq_eq_false_iff_ne.2 (by omega)
    (repeat' (first | (simp only [wp, extractV, exists_eq_left', if_true, if_false, ite_true, ite_false, reduceIte, Nat.reduceAdd, Nat.reduceLT, Nat.reduceLeDiff, Nat.reduceEqDiff, str_len, e, Run.slice0]) | (with_reducible refine Run.gC ?_ ?_ <;> intro hb <;> try simp only [hb]) | (with_reducible refine Run.gG ?_ ?_ <;> intro hb <;> try simp only [hb]) | (with_reducible refine Run.gQ ?_ ?_ <;> intro hb <;> try simp only [hb])))
    refine Run.loop (N := l.length) (fun k st H => ∃ y, st = [y, .int .i64 (k : Nat)] ∧ Own H y 1 (byR (hexL (l.take k))) ∧ H.floor = 0) ⟨.emp, rfl, by simpa [hexL, byR] using Own.emp Heap.empty 1, rfl⟩ ?_
    rintro k st H hk ⟨y, rfl, oy, hf⟩
    simp only [ferry_ferryref25_Data_l1]
    by_cases hlt : k < l.length
    · have hb := u8_lt l[k]
      have h1 : l[k].toNat / 16 < 16 := by omega
      have h2 : l[k].toNat % 16 < 16 := Nat.mod_lt _ (by decide)
      have lt : (hexL (l.take k)).length = 2 * k := by rw [hexL_len, List.length_take]; omega
      (repeat' (first | (simp only [wp, extractV, exists_eq_left', if_true, if_false, ite_true, ite_false, reduceIte, Nat.reduceAdd, Nat.reduceLT, Nat.reduceLeDiff, Nat.reduceEqDiff, str_len, nltT hlt, str_idx hlt, byteI, quo16 hb, digit_spec n h1, Run.sliceOne]) | (with_reducible refine Run.gC ?_ ?_ <;> intro hb <;> try simp only [hb]) | (with_reducible refine Run.gG ?_ ?_ <;> intro hb <;> try simp only [hb]) | (with_reducible refine Run.gQ ?_ ?_ <;> intro hb <;> try simp only [hb])))
      refine (Run.app (bytes := 1) (items := [[.int .u8 ((hexD (l[k].toNat / 16)).toNat : Int)]]) (by rw [Heap.add_floor, hf]; exact Nat.zero_le _) (oy.frame (Frame.add _ (fun _ => False)) (fun _ _ => id)) (by simp [itemsV, Heap.add_blk]) (by rw [byR_len, lt]; simp only [List.length_cons, List.length_nil]; omega)).mono fun y1 H1 ⟨o1, f1, _⟩ => ?_
      have hf1 : H1.floor = 0 := f1.floor.trans hf
      (repeat' (first | (simp only [wp, extractV, exists_eq_left', if_true, if_false, ite_true, ite_false, reduceIte, Nat.reduceAdd, Nat.reduceLT, Nat.reduceLeDiff, Nat.reduceEqDiff, str_len, str_idx hlt, byteI, rem16, digit_spec n h2, Run.sliceOne]) | (with_reducible refine Run.gC ?_ ?_ <;> intro hb <;> try simp only [hb]) | (with_reducible refine Run.gG ?_ ?_ <;> intro hb <;> try simp only [hb]) | (with_reducible refine Run.gQ ?_ ?_ <;> intro hb <;> try simp only [hb])))
      refine (Run.app (bytes := 1) (items := [[.int .u8 ((hexD (l[k].toNat % 16)).toNat : Int)]]) (by rw [Heap.add_floor, hf1]; exact Nat.zero_le _) (o1.frame (Frame.add _ (fun _ => False)) (fun _ _ => id)) (by simp [itemsV, Heap.add_blk]) (by rw [List.length_append, byR_len, lt]; simp only [List.length_cons, List.length_nil]; omega)).mono fun y2 H2 ⟨o2, f2, _⟩ => ?_
      (repeat' (first | (simp only [wp, extractV, exists_eq_left', if_true, if_false, ite_true, ite_false, reduceIte, Nat.reduceAdd, Nat.reduceLT, Nat.reduceLeDiff, Nat.reduceEqDiff, nadd hlt (show l.length ≤ 9223372036854775807 by omega)]) | (with_reducible refine Run.gC ?_ ?_ <;> intro hb <;> try simp only [hb]) | (with_reducible refine Run.gG ?_ ?_ <;> intro hb <;> try simp only [hb]) | (with_reducible refine Run.gQ ?_ ?_ <;> intro hb <;> try simp only [hb])))
      refine ⟨hlt, y2, rfl, ?_, f2.floor.trans hf1⟩
      rw [hexL_snoc hlt, byR_append]
      rw [List.append_assoc] at o2
      exact o2
    · have hk' : k = l.length := by omega
      subst hk'
      rw [List.take_length] at oy
      (repeat' (first | (simp only [wp, extractV, exists_eq_left', if_true, if_false, ite_true, ite_false, reduceIte, Nat.reduceAdd, Nat.reduceLT, Nat.reduceLeDiff, Nat.reduceEqDiff, str_len, nltF hlt, Run.readOwn oy]) | (with_reducible refine Run.gC ?_ ?_ <;> intro hb <;> try simp only [hb]) | (with_reducible refine Run.gG ?_ ?_ <;> intro hb <;> try simp only [hb]) | (with_reducible refine Run.gQ ?_ ?_ <;> intro hb <;> try simp only [hb])))
      rw [dataL, if_neg h]

/-- A page's rights. -/
def rightsL (r : Int) : List UInt8 :=
  let s := (if r % 2 = 1 then [114] else []) ++ (if r / 2 % 2 = 1 then [119] else []) ++ (if r / 4 % 2 = 1 then [120] else [])
  if s = [] then [45] else s
theorem eight {r : Int} (h0 : 0 ≤ r) (h7 : r ≤ 7) : r = 0 ∨ r = 1 ∨ r = 2 ∨ r = 3 ∨ r = 4 ∨ r = 5 ∨ r = 6 ∨ r = 7 := by omega
set_option maxRecDepth 100000 in
theorem rights_spec (n : Nat) {r : Int} (h0 : 0 ≤ r) (h7 : r ≤ 7) : callV (cfg G) (sem (cfg G) (n + 1)) 134 [.int .i64 r] = M.ret (.str (bs (rightsL r))) := by
  rcases eight h0 h7 with rfl | rfl | rfl | rfl | rfl | rfl | rfl | rfl <;> exact callV_pure0 rfl rfl rfl (run_of_plays (fuel := 10) (by kernel_rfl))
set_option maxRecDepth 100000 in
theorem refRights_spec (n : Nat) {r : Int} (h0 : 0 ≤ r) (h7 : r ≤ 7) : callV (cfg G) (sem (cfg G) (n + 1)) 147 [.int .i64 r] = M.ret (.str (bs (rightsL r))) := by
  rcases eight h0 h7 with rfl | rfl | rfl | rfl | rfl | rfl | rfl | rfl <;> exact callV_pure0 rfl rfl rfl (run_of_plays (fuel := 10) (by kernel_rfl))
theorem rightsL_len (r : Int) : (rightsL r).length ≤ 3 := by
  by_cases h1 : r % 2 = 1 <;> by_cases h2 : r / 2 % 2 = 1 <;> by_cases h3 : r / 4 % 2 = 1 <;> simp [rightsL, h1, h2, h3]

/-- Words as a line. -/
def lineL (ws : List (List UInt8)) : List UInt8 := Go.Lib.join ws [32]
theorem strs_map : ∀ ws : List (List UInt8), (ws.map stB).mapM strOf = some (ws.map bs)
  | [] => rfl
  | w :: ws => by
    rw [List.map_cons, List.mapM_cons, strs_map ws]
    rfl
theorem bs_datas (ws : List (List UInt8)) : (ws.map bs).map (·.data.toList) = ws := by
  rw [List.map_map]
  conv => rhs; rw [← List.map_id ws]
  exact List.map_congr_left fun w _ => bs_data w
theorem join_seen (n : Nat) {H : Heap} {x : V} {ws : List (List UInt8)} {sep : List UInt8} {Q : V → Heap → Prop} (hx : Rd H x 1 (ws.map stB)) (hne : ws ≠ []) (hN : ws.length ≤ room) (hl : (Go.Lib.join ws sep).length ≤ room)
    (q : Q (.str (bs (Go.Lib.join ws sep))) H) : Run (callV (cfg G) (sem (cfg G) n) 84 [x, .str (bs sep)]) H Q := by
  obtain ⟨y, ey0, ey, sy⟩ := hx.thaw (flat_stB ws)
  have hy : y = .imm 1 (ws.map stB) := by
    rcases sy with h | ⟨h, _⟩
    · exact h
    · exact absurd (List.map_eq_nil_iff.1 h) hne
  subst hy
  refine ⟨.str (bs (Go.Lib.join ws sep)), H, ?_, q⟩
  show callP false (fun ys => M.lift (extX G 84 ys)) [x, .str (bs sep)] H = _
  have hm : ([x, V.str (bs sep)]).mapM (thawV true H) = some [.imm 1 (ws.map stB), .str (bs sep)] := by
    simp only [List.mapM_cons, List.mapM_nil, ey, thaw_s]; rfl
  have hj : extX G 84 [.imm 1 (ws.map stB), .str (bs sep)] = some (.str (bs (Go.Lib.join ws sep))) := by
    show joinX [.imm 1 (ws.map stB), .str (bs sep)] = _
    simp only [joinX, strs_map, Option.bind_some, bs_datas, bs_data]
    rw [if_pos ⟨fun e => hne (List.map_eq_nil_iff.1 e), by rw [List.length_map]; exact hN, hl⟩]
    show some (V.str ⟨(Go.Lib.join ((ws.map bs).map (·.data.toList)) (bs sep).data.toList).toArray⟩) = _
    rw [bs_datas, bs_data]
    rfl
  simp only [callP, hm, Option.bind_some, M.lift, hj, thaw_s]
  rfl
theorem line_run (n : Nat) {H : Heap} {x : V} {ws : List (List UInt8)} {Q : V → Heap → Prop} (hx : Rd H x 1 (ws.map stB)) (hne : ws ≠ []) (hN : ws.length ≤ room) (hl : (lineL ws).length ≤ room)
    (q : Q (.str (bs (lineL ws))) H) : Run (callV (cfg G) (sem (cfg G) (n + 1)) 78 [x]) H Q := by
  obtain ⟨y, ey0, ey, sy⟩ := hx.thaw (flat_stB ws)
  refine Run.callSeen rfl (bs := [y]) (by simp only [List.mapM_cons, ey]; rfl) ?_ (fun ok H' => thaw_s ok H' _) q
  rw [ferry_text_line_eq]
  simp only [ferry_text_line]
  have e : (⟨#[32]⟩ : ByteArray) = bs [32] := rfl
  (repeat' (first | (simp only [wp, extractV, exists_eq_left', if_true, if_false, ite_true, ite_false, reduceIte, Nat.reduceAdd, Nat.reduceLT, Nat.reduceLeDiff, Nat.reduceEqDiff, e]) | (with_reducible refine Run.gC ?_ ?_ <;> intro hb <;> try simp only [hb]) | (with_reducible refine Run.gG ?_ ?_ <;> intro hb <;> try simp only [hb]) | (with_reducible refine Run.gQ ?_ ?_ <;> intro hb <;> try simp only [hb])))
  refine join_seen n (.sls sy) hne hN hl ?_
  (repeat' (first | (simp only [wp, extractV, exists_eq_left', if_true, if_false, ite_true, ite_false, reduceIte, Nat.reduceAdd, Nat.reduceLT, Nat.reduceLeDiff, Nat.reduceEqDiff]) | (with_reducible refine Run.gC ?_ ?_ <;> intro hb <;> try simp only [hb]) | (with_reducible refine Run.gG ?_ ?_ <;> intro hb <;> try simp only [hb]) | (with_reducible refine Run.gQ ?_ ?_ <;> intro hb <;> try simp only [hb])))
  rfl
end Go.Fv.Tr
