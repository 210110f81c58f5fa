/-
  Words of a text: numbers, bytes, rights; the program's and the document's. By an AI agent; no person has read it.
-/
import Derived.Test.YtoogammidjhfgaaDoorFvStE
import Derived.Test.YtoogammidjhfgaaDoorFvSsA
import Derived.Test.YtoogammidjhfgaaDoorFvTr40
set_option linter.unusedVariables false
set_option linter.unusedSimpArgs false
set_option linter.unusedSectionVars false
/-! Words of a text: numbers, bytes, rights; the program's and the document's. -/
namespace Go.Fv.Tr
open Go Go.Fv Go.Proofs
set_option linter.unusedSimpArgs false
set_option linter.unusedVariables false
variable {G : Nat → Option (List V)}

theorem mk_bs (l : List UInt8) : (⟨l.toArray⟩ : ByteArray) = bs l := rfl
def stB (w : List UInt8) : List V := [.str (bs w)]
theorem flat_stB (l : List (List UInt8)) : flatRows (l.map stB) = true := flat_map (fun _ => rfl) l

/-- A digit in base sixteen. -/
def hexD (k : Nat) : UInt8 := if k < 10 then UInt8.ofNat (48 + k) else UInt8.ofNat (87 + k)
def hexL (l : List UInt8) : List UInt8 := l.flatMap fun b => [hexD (b.toNat / 16), hexD (b.toNat % 16)]
def dataL (l : List UInt8) : List UInt8 := if l = [] then [45] else hexL l
theorem hexL_len (l : List UInt8) : (hexL l).length = 2 * l.length := by
  induction l with
  | nil => rfl
  | cons b l ih => simp only [hexL, List.flatMap_cons, List.length_append, List.length_cons, List.length_nil] at ih ⊢; omega
theorem hexL_snoc {l : List UInt8} {i : Nat} (h : i < l.length) : hexL (l.take (i + 1)) = hexL (l.take i) ++ [hexD (l[i].toNat / 16), hexD (l[i].toNat % 16)] := by
  rw [List.take_succ_eq_append_getElem h]
  simp only [hexL, List.flatMap_append, List.flatMap_cons, List.flatMap_nil, List.append_nil]

def gi8 : Option V → Int
  | some (.int .u8 n) => n
  | _ => -1
theorem gi8_of {x : Option V} {m : Int} (h : gi8 x = m) (hm : 0 ≤ m) : x = some (.int .u8 m) := by
  unfold gi8 at h
  split at h
  · rw [h]
  · omega
theorem shr_all : ∀ k, k < 256 → gi8 (arithV .shr (.int .u8 ((k : Nat) : Int)) (.int .u64 4)) = ((k / 16 : Nat) : Int) := by decide +kernel
theorem and_all : ∀ k, k < 256 → gi8 (arithV .and (.int .u8 ((k : Nat) : Int)) (.int .u8 15)) = ((k % 16 : Nat) : Int) := by decide +kernel
theorem u8_lt (b : UInt8) : b.toNat < 256 := b.toNat_lt
theorem shr4 (b : UInt8) : arithV .shr (.int .u8 (b.toNat : Int)) (.int .u64 4) = some (.int .u8 ((b.toNat / 16 : Nat) : Int)) := gi8_of (shr_all _ (u8_lt b)) (by omega)
theorem and15 (b : UInt8) : arithV .and (.int .u8 (b.toNat : Int)) (.int .u8 15) = some (.int .u8 ((b.toNat % 16 : Nat) : Int)) := gi8_of (and_all _ (u8_lt b)) (by omega)
def tabH : List UInt8 := [48, 49, 50, 51, 52, 53, 54, 55, 56, 57, 97, 98, 99, 100, 101, 102]
theorem tab_at : ∀ k, (h : k < 16) → tabH[k]'(by exact h) = hexD k := by decide
theorem hex_idx {k : Nat} (h : k < 16) : indexS (.str (bs tabH)) (.int .u8 (k : Int)) = some (.int .u8 ((hexD k).toNat : Int)) := by
  have := str_idx (a := tabH) (k := .u8) (show k < tabH.length from h)
  rw [this]
  exact congrArg (fun z : UInt8 => some (V.int .u8 (z.toNat : Int))) (tab_at k h)

theorem digit_spec (n : Nat) {k : Nat} (h : k < 16) : callV (cfg G) (sem (cfg G) (n + 1)) 148 [.int .i64 (k : Int)] = M.ret (.int .u8 ((hexD k).toNat : Int)) := by
  refine callV_pure0 rfl rfl rfl ?_
  rw [ferry_ferryref25_digit_eq]
  simp only [ferry_ferryref25_digit]
  by_cases h10 : k < 10
  · have e : decide ((k : Int) < 10) = true := decide_eq_true (by omega)
    have e2 : ((hexD k).toNat : Int) = 48 + (k : Int) := by rw [hexD, if_pos h10]; simp; omega
    (repeat' (first | (simp only [wp, extractV, exists_eq_left', if_true, if_false, ite_true, ite_false, reduceIte, Nat.reduceAdd, Nat.reduceLT, Nat.reduceLeDiff, Nat.reduceEqDiff, e, arith_add (a := 48) (b := (k : Int)) (by omega) (by omega), conv_u8 (k := .i64) (a := 48 + (k : Int)) (by omega) (by omega)]) | (with_reducible refine Run.gC ?_ ?_ <;> intro hb <;> try simp only [hb]) | (with_reducible refine Run.gG ?_ ?_ <;> intro hb <;> try simp only [hb]) | (with_reducible refine Run.gQ ?_ ?_ <;> intro hb <;> try simp only [hb])))
    rw [e2]
  · have e : decide ((k : Int) < 10) = false := decide_eq_false (by omega)
    have e2 : ((hexD k).toNat : Int) = 97 + (k : Int) - 10 := by rw [hexD, if_neg h10]; simp; omega
    have e3 : arithV .sub (.int .i64 (97 + (k : Int))) (.int .i64 10) = some (.int .i64 (97 + (k : Int) - 10)) := arith_sub (by omega) (by omega)
    (repeat' (first | (simp only [wp, extractV, exists_eq_left', if_true, if_false, ite_true, ite_false, reduceIte, Nat.reduceAdd, Nat.reduceLT, Nat.reduceLeDiff, Nat.reduceEqDiff, e, arith_add (a := 97) (b := (k : Int)) (by omega) (by omega), e3, conv_u8 (k := .i64) (a := 97 + (k : Int) - 10) (by omega) (by omega)]) | (with_reducible refine Run.gC ?_ ?_ <;> intro hb <;> try simp only [hb]) | (with_reducible refine Run.gG ?_ ?_ <;> intro hb <;> try simp only [hb]) | (with_reducible refine Run.gQ ?_ ?_ <;> intro hb <;> try simp only [hb])))
    rw [e2]

theorem num_spec (hG : tabOf G = true) (n : Nat) {m : Int} (hm : inR m) : callV (cfg G) (sem (cfg G) (n + 2)) 79 [.int .i64 m] = M.ret (.str (bs (Go.Lib.itoa m))) := by
  refine callV_pure0 rfl rfl rfl ?_
  rw [ferry_text_num_eq]
  simp only [ferry_text_num]
  (repeat' (first | (simp only [wp, extractV, exists_eq_left', if_true, if_false, ite_true, ite_false, reduceIte, Nat.reduceAdd, Nat.reduceLT, Nat.reduceLeDiff, Nat.reduceEqDiff, itoa_spec hG n hm, itoaB_bs]) | (with_reducible refine Run.gC ?_ ?_ <;> intro hb <;> try simp only [hb]) | (with_reducible refine Run.gG ?_ ?_ <;> intro hb <;> try simp only [hb]) | (with_reducible refine Run.gQ ?_ ?_ <;> intro hb <;> try simp only [hb])))
theorem choice_spec (n : Nat) (b : Bool) (x y : ByteArray) : callV (cfg G) (sem (cfg G) (n + 1)) 81 [.bool b, .str x, .str y] = M.ret (.str (if b then x else y)) := by
  refine callV_pure0 rfl rfl rfl ?_
  rw [ferry_text_choice_eq]
  simp only [ferry_text_choice]
  cases b <;> (repeat' (first | (simp only [wp, extractV, exists_eq_left', if_true, if_false, ite_true, ite_false, reduceIte, Nat.reduceAdd, Nat.reduceLT, Nat.reduceLeDiff, Nat.reduceEqDiff]) | (with_reducible refine Run.gC ?_ ?_ <;> intro hb <;> try simp only [hb]) | (with_reducible refine Run.gG ?_ ?_ <;> intro hb <;> try simp only [hb]) | (with_reducible refine Run.gQ ?_ ?_ <;> intro hb <;> try simp only [hb]))) <;> rfl

theorem arith_mul {a b : Int} (h : -9223372036854775808 ≤ a * b) (h' : a * b ≤ 9223372036854775807) : arithV .mul (.int .i64 a) (.int .i64 b) = some (.int .i64 (a * b)) := by
  have : IntKind.i64.wrap (a * b) = a * b := Go.IntWalk.i64_in _ ⟨h, h'⟩
  simp [arithV, this]
theorem Run.make0 {H : Heap} {z : V} {c : Nat} {Q : V → Heap → Prop} (hf : H.floor ≤ H.next) (hc : c ≤ room) (q : ∀ x H', Own H' x 1 [] → Frame H H' (fun _ => False) → (∀ l, loc x = some l → H.next ≤ l) → Q x H') : Run (makeV 1 1 [z] (.int .i64 0) (.int .i64 (c : Int))) H Q := by
  have h1 : natOf (.int .i64 0) = some 0 := rfl
  have h2 : natOf (.int .i64 (c : Int)) = some c := by simp [natOf]
  cases c with
  | zero => exact ⟨.emp, H, by simp [makeV, h1, h2], q _ _ (Own.emp _ _) (Frame.refl _ _) (fun l e => by cases e)⟩
  | succ c =>
    refine ⟨.ref H.next 1 0 0 (c + 1) true, H.add ⟨1, List.replicate (c + 1) [z]⟩, ?_, q _ _ (.inr ⟨H.next, 0, c + 1, true, _, rfl, Heap.add_new _, hf, Nat.lt_succ_self _, Nat.zero_le _, by simp, rfl⟩) (Frame.add _ _) (fun l e => by cases e; exact Nat.le_refl _)⟩
    simp only [makeV, h1, h2, Option.bind_some, newCap, List.length_replicate]
    rw [if_pos ⟨Nat.zero_le _, by omega, hc⟩]

theorem hex_run (n : Nat) {l : List UInt8} (hl : l.length * 2 ≤ room) {x : V} (hx : Sls x 1 (byR l)) : Run (sem (cfg G) (n + 1) 136 [x]) Heap.empty fun v _ => v = .str (bs (hexL l)) := by
  rw [ferry_wire_Hex_eq]
  simp only [ferry_wire_Hex]
  have hr : room = 140737488355328 := rfl
  have lx := hx.len
  rw [byR_len] at lx
  have em : arithV .mul (.int .i64 2) (.int .i64 (l.length : Int)) = some (.int .i64 ((2 * l.length : Nat) : Int)) := by
    rw [arith_mul (a := 2) (b := (l.length : Int)) (by omega) (by omega)]; rfl
  (repeat' (first | (simp only [wp, extractV, exists_eq_left', if_true, if_false, ite_true, ite_false, reduceIte, Nat.reduceAdd, Nat.reduceLT, Nat.reduceLeDiff, Nat.reduceEqDiff, lx, em]) | (with_reducible refine Run.gC ?_ ?_ <;> intro hb <;> try simp only [hb]) | (with_reducible refine Run.gG ?_ ?_ <;> intro hb <;> try simp only [hb]) | (with_reducible refine Run.gQ ?_ ?_ <;> intro hb <;> try simp only [hb])))
  refine Run.make0 (Nat.le_refl _) (by omega) fun y H1 o1 f1 l1 => ?_
  have fl1 : H1.floor = 0 := f1.floor
  (repeat' (first | (simp only [wp, extractV, exists_eq_left', if_true, if_false, ite_true, ite_false, reduceIte, Nat.reduceAdd, Nat.reduceLT, Nat.reduceLeDiff, Nat.reduceEqDiff]) | (with_reducible refine Run.gC ?_ ?_ <;> intro hb <;> try simp only [hb]) | (with_reducible refine Run.gG ?_ ?_ <;> intro hb <;> try simp only [hb]) | (with_reducible refine Run.gQ ?_ ?_ <;> intro hb <;> try simp only [hb])))
  refine Run.loop (N := l.length) (fun k st H => ∃ y, st = [y, .int .i64 (k : Nat)] ∧ Own H y 1 (byR (hexL (l.take k))) ∧ H.floor = 0) ⟨y, rfl, by simpa [hexL, byR] using o1, fl1⟩ ?_
  rintro k st H hk ⟨y, rfl, oy, hf⟩
  simp only [ferry_wire_Hex_l1]
  by_cases hlt : k < l.length
  · have hix := hx.idx (k := .i64) (i := k) (by rw [byR_len]; exact hlt)
    rw [byR_get hlt] at hix
    have h1 : l[k].toNat / 16 < 16 := by have := u8_lt l[k]; omega
    have h2 : l[k].toNat % 16 < 16 := Nat.mod_lt _ (by decide)
    have h3 : (⟨#[48, 49, 50, 51, 52, 53, 54, 55, 56, 57, 97, 98, 99, 100, 101, 102]⟩ : ByteArray) = bs tabH := rfl
    (repeat' (first | (simp only [wp, extractV, exists_eq_left', if_true, if_false, ite_true, ite_false, reduceIte, Nat.reduceAdd, Nat.reduceLT, Nat.reduceLeDiff, Nat.reduceEqDiff, nltT hlt, hix, shr4, and15, h3, hex_idx h1, hex_idx h2, Run.slice]) | (with_reducible refine Run.gC ?_ ?_ <;> intro hb <;> try simp only [hb]) | (with_reducible refine Run.gG ?_ ?_ <;> intro hb <;> try simp only [hb]) | (with_reducible refine Run.gQ ?_ ?_ <;> intro hb <;> try simp only [hb])))
    refine ⟨[[.int .u8 ((hexD (l[k].toNat / 16)).toNat : Int)], [.int .u8 ((hexD (l[k].toNat % 16)).toNat : Int)]], rfl, ?_⟩
    refine (Run.tapp (bytes := 1) (items := [[.int .u8 ((hexD (l[k].toNat / 16)).toNat : Int)], [.int .u8 ((hexD (l[k].toNat % 16)).toNat : Int)]]) (by rw [Heap.add_floor, hf]; exact Nat.zero_le _) (oy.frame (Frame.add _ (fun _ => False)) (fun _ _ => id)) (fun m hm => ?_) ?_ ?_).mono fun y' H' ⟨o', f', _⟩ => ?_
    · have hl := oy.lt hm
      simp [visB, Heap.add_next]; omega
    · simp [itemsV, Heap.add_blk, visB]
    · rw [byR_len, hexL_len, List.length_take]
      simp only [List.length_cons, List.length_nil]
      omega
    · (repeat' (first | (simp only [wp, extractV, exists_eq_left', if_true, if_false, ite_true, ite_false, reduceIte, Nat.reduceAdd, Nat.reduceLT, Nat.reduceLeDiff, Nat.reduceEqDiff, nadd hlt (show l.length ≤ 9223372036854775807 by omega)]) | (with_reducible refine Run.gC ?_ ?_ <;> intro hb <;> try simp only [hb]) | (with_reducible refine Run.gG ?_ ?_ <;> intro hb <;> try simp only [hb]) | (with_reducible refine Run.gQ ?_ ?_ <;> intro hb <;> try simp only [hb])))
      refine ⟨hlt, y', rfl, ?_, f'.floor.trans hf⟩
      rw [hexL_snoc hlt, byR_append]
      exact o'
  · have hk' : k = l.length := by omega
    subst hk'
    rw [List.take_length] at oy
    (repeat' (first | (simp only [wp, extractV, exists_eq_left', if_true, if_false, ite_true, ite_false, reduceIte, Nat.reduceAdd, Nat.reduceLT, Nat.reduceLeDiff, Nat.reduceEqDiff, nltF hlt, Run.readOwn oy]) | (with_reducible refine Run.gC ?_ ?_ <;> intro hb <;> try simp only [hb]) | (with_reducible refine Run.gG ?_ ?_ <;> intro hb <;> try simp only [hb]) | (with_reducible refine Run.gQ ?_ ?_ <;> intro hb <;> try simp only [hb])))
end Go.Fv.Tr
