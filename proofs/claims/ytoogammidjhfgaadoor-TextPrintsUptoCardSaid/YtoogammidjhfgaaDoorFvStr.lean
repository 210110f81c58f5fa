/-
  Strings and bytes, in walks. By an AI agent; no person has read it.
-/
import Derived.Test.YtoogammidjhfgaaDoorFvW4
import Derived.Lib.ItoaNum
set_option linter.unusedVariables false
set_option linter.unusedSimpArgs false
set_option linter.unusedSectionVars false
/-! Strings and bytes, in walks. -/
namespace Go.Fv
open Go

/-- A string of bytes. -/
def bs (l : List UInt8) : ByteArray := ⟨l.toArray⟩
theorem bs_size (l : List UInt8) : (bs l).size = l.length := rfl
theorem bs_toList (s : ByteArray) : bs s.data.toList = s := by cases s; simp [bs]
theorem bs_inj {a b : List UInt8} (h : bs a = bs b) : a = b := by
  have := congrArg (fun s : ByteArray => s.data.toList) h
  simpa [bs] using this
theorem bs_append (a b : List UInt8) : bs a ++ bs b = bs (a ++ b) := by
  have : (bs a ++ bs b).data = (bs (a ++ b)).data := by
    rw [ByteArray.data_append]
    simp [bs]
  generalize bs a ++ bs b = x at *
  cases x
  simp only at this
  rw [this]
theorem bs_data (l : List UInt8) : (bs l).data.toList = l := by simp [bs]
theorem loop_eq (s : ByteArray) : ∀ (k i : Nat) (r : List UInt8), s.size - i = k → ByteArray.toList.loop s i r = r.reverse ++ s.data.toList.drop i
  | 0, i, r, h => by
    have hle : s.data.toList.length ≤ i := by have : s.size = s.data.toList.length := by simp
                                              omega
    rw [ByteArray.toList.loop, if_neg (by omega), List.drop_of_length_le hle, List.append_nil]
  | k + 1, i, r, h => by
    have hlt : i < s.size := by omega
    have hl : i < s.data.toList.length := by have : s.size = s.data.toList.length := by simp
                                             omega
    have hg : s.get! i = s.data.toList[i] := by
      have : s.get! i = s.data[i]! := by cases s; rfl
      rw [this, getElem!_pos s.data i hlt, Array.getElem_toList]
    rw [ByteArray.toList.loop, if_pos hlt, loop_eq s k (i + 1) _ (by omega), List.drop_eq_getElem_cons hl, hg]
    simp
theorem toList_data (s : ByteArray) : s.toList = s.data.toList := by
  unfold ByteArray.toList
  rw [loop_eq s s.size 0 [] rfl]
  simp
theorem bs_eqb (a b : List UInt8) : ((bs a).toList == (bs b).toList) = (a == b) := by
  have h1 : (bs a).toList = a := by rw [toList_data]; exact bs_data a
  have h2 : (bs b).toList = b := by rw [toList_data]; exact bs_data b
  rw [h1, h2]

def byR (l : List UInt8) : List (List V) := l.map fun b => [V.int .u8 (b.toNat : Int)]
theorem byR_len (l : List UInt8) : (byR l).length = l.length := List.length_map _
theorem byR_rows (l : List UInt8) : bytesRows (bs l) = byR l := by simp [bytesRows, bs, byR]
theorem bytesOf_byR (l : List UInt8) : bytesOf (byR l) = some (bs l) := by
  have : (byR l).mapM byteOf = some l := by
    induction l with
    | nil => rfl
    | cons b l ih =>
      have e : byR (b :: l) = [V.int .u8 (b.toNat : Int)] :: byR l := rfl
      rw [e, List.mapM_cons, ih]
      have : byteOf [V.int .u8 (b.toNat : Int)] = some b := by simp [byteOf]
      rw [this]
      rfl
  simp [bytesOf, this, bs]
theorem byR_append (a b : List UInt8) : byR (a ++ b) = byR a ++ byR b := List.map_append
theorem byR_get {l : List UInt8} {i : Nat} (h : i < l.length) : (byR l)[i]'(by rw [byR_len]; exact h) = [V.int .u8 (l[i].toNat : Int)] := by simp [byR]
theorem flat_byR (l : List UInt8) : flatRows (byR l) = true := by simp [flatRows, byR, V.flat]

section
variable {H : Heap} {x : V} {l : List UInt8} {sz : Nat} {rows : List (List V)}
theorem Run.readB {Q : V → Heap → Prop} {x : V} (hi : itemsV 1 x H = some (byR l)) (hx : ∀ s, x ≠ .str s) : Run (readBytes x) H Q ↔ Q (.str (bs l)) H := by
  refine Run.eq ?_
  unfold readBytes
  split
  · rename_i s; exact absurd rfl (hx s)
  · rw [hi, Option.bind_some, bytesOf_byR]; rfl
theorem Own.items (h : Own H x sz rows) : itemsV sz x H = some rows := by
  rcases h with ⟨rfl | rfl, rfl⟩ | ⟨l, n, c, ex, b, rfl, h1, h2, h3, h4, h5, rfl⟩
  · rfl
  · rfl
  · have : n ≤ b.rows.length := by omega
    simp [itemsV, h1, this]
theorem Own.notStr (h : Own H x sz rows) : ∀ s, x ≠ .str s := by
  rcases h with ⟨rfl | rfl, _⟩ | ⟨l, n, c, ex, b, rfl, _⟩ <;> intro s e <;> cases e
theorem Run.readOwn {Q : V → Heap → Prop} (h : Own H x 1 (byR l)) : Run (readBytes x) H Q ↔ Q (.str (bs l)) H := Run.readB h.items h.notStr
theorem Run.readSls {Q : V → Heap → Prop} (h : Sls x 1 (byR l)) : Run (readBytes x) H Q ↔ Q (.str (bs l)) H :=
  Run.readB (h.items H) (by rcases h with rfl | ⟨_, rfl | rfl⟩ <;> intro s e <;> cases e)
/-- One byte, made a string. -/
theorem Run.readOne {Q : V → Heap → Prop} {n : Int} : Run (readBytes (.ref H.next 1 0 1 1 true)) (H.add ⟨1, [[.int .u8 n]]⟩) Q ↔ Q (.str (bs [UInt8.ofNat n.toNat])) (H.add ⟨1, [[.int .u8 n]]⟩) := by
  refine Run.eq ?_
  simp [readBytes, itemsV, Heap.add_blk, bytesOf, byteOf, bs]
theorem Run.newB' {Q : V → Heap → Prop} : Run (newBytes (.str (bs l))) H Q ↔ Q (.ref H.next 1 0 l.length l.length false) (H.add ⟨1, byR l⟩) := by
  refine Run.eq ?_
  simp [newBytes, newRows, byR_rows, byR_len]
end

theorem str_add {a b : List UInt8} (h : a.length + b.length ≤ 9223372036854775807) : arithV .add (.str (bs a)) (.str (bs b)) = some (.str (bs (a ++ b))) := by
  have hm : IntKind.i64.max = 9223372036854775807 := by decide
  have h' : ¬ (((bs a).size + (bs b).size : Nat) : Int) > IntKind.i64.max := by rw [hm, bs_size, bs_size]; omega
  simp only [arithV, if_neg h', bs_append]
theorem str_eq {c : Bool} {a b : List UInt8} : eqV (.sc .str) c (.str (bs a)) (.str (bs b)) = some (a == b) := by rw [eq_str, bs_eqb]
theorem str_len {a : List UInt8} : lenS (.str (bs a)) = some (.int .i64 (a.length : Int)) := rfl
theorem str_idx {a : List UInt8} {k : IntKind} {i : Nat} (h : i < a.length) : indexS (.str (bs a)) (.int k (i : Int)) = some (.int .u8 (a[i].toNat : Int)) := by
  have hi : (bs a)[i]? = some a[i] := by
    have : i < (bs a).size := h
    rw [getElem?_pos (bs a) i this]
    rfl
  simp [indexS, hi]

theorem arith_rem {a b : Int} (h : b ≠ 0) : arithV .rem (.int .i64 a) (.int .i64 b) = some (.int .i64 (a.tmod b)) := by simp [arithV, h]
theorem arith_quo {a b : Int} (h : b ≠ 0) (h1 : -9223372036854775808 ≤ a.tdiv b) (h2 : a.tdiv b ≤ 9223372036854775807) : arithV .quo (.int .i64 a) (.int .i64 b) = some (.int .i64 (a.tdiv b)) := by
  have : IntKind.i64.wrap (a.tdiv b) = a.tdiv b := Go.IntWalk.i64_in _ ⟨h1, h2⟩
  simp [arithV, h, this]
theorem un_neg {a : Int} (h1 : -9223372036854775808 ≤ -a) (h2 : -a ≤ 9223372036854775807) : unV .neg (.int .i64 a) = some (.int .i64 (-a)) := by
  have : IntKind.i64.wrap (0 - a) = -a := by rw [Int.zero_sub]; exact Go.IntWalk.i64_in _ ⟨h1, h2⟩
  simp only [unV, this]
theorem conv_u8 {k : IntKind} {a : Int} (h1 : 0 ≤ a) (h2 : a < 256) : convI .u8 (.int k a) = some (.int .u8 a) := by
  have : IntKind.u8.wrap a = a := by
    rw [IntKind.wrap_u8]; omega
  simp only [convI, this]
end Go.Fv
namespace Go.Fv
open Go
theorem nadd {i N : Nat} (h : i < N) (hN : N ≤ 9223372036854775807) : arithV .add (.int .i64 (i : Int)) (.int .i64 1) = some (.int .i64 ((i + 1 : Nat) : Int)) :=
  arith_add (by omega) (by omega)
theorem nltT {i N : Nat} (h : i < N) : decide ((i : Int) < (N : Int)) = true := by simpa using h
theorem nltF {i N : Nat} (h : ¬ i < N) : decide ((i : Int) < (N : Int)) = false := by simpa using h
theorem Own.grow {H H' : Heap} {x : V} {sz : Nat} {rows : List (List V)} (h : Own H x sz rows) (f : Frame H H' (fun _ => False)) : Own H' x sz rows := by
  rcases h with h | ⟨l, n, c, ex, b, rfl, h1, h2, h3, h4⟩
  · exact .inl h
  · exact .inr ⟨l, n, c, ex, b, rfl, (f.old l h3 id).trans h1, by rw [f.floor]; exact h2, Nat.lt_of_lt_of_le h3 f.next, h4⟩

/-- The digits of a number ahead of what stands there already. -/
def dgs (u : Nat) (s : List UInt8) : List UInt8 := if u = 0 then s else Go.Lib.decDigits u ++ s
theorem dgs_step {u : Nat} (h : u ≠ 0) (s : List UInt8) : dgs u s = dgs (u / 10) (UInt8.ofNat (48 + u % 10) :: s) := by
  unfold dgs
  rw [if_neg h, Go.Lib.decDigits]
  by_cases h10 : u < 10
  · rw [dif_pos h10, if_pos (by omega), Nat.mod_eq_of_lt h10]; rfl
  · rw [dif_neg h10, if_neg (by omega), List.append_assoc]; rfl
theorem dec_len (u : Nat) : ∀ k, u < 10 ^ (k + 1) → (Go.Lib.decDigits u).length ≤ k + 1 := by
  induction u using Nat.strongRecOn with
  | _ u ih =>
    intro k hk
    rw [Go.Lib.decDigits]
    by_cases h10 : u < 10
    · rw [dif_pos h10]; simp
    · rw [dif_neg h10]
      cases k with
      | zero => omega
      | succ k =>
        have h1 : u / 10 < 10 ^ (k + 1) := by rw [Nat.pow_succ] at hk; omega
        have := ih (u / 10) (by omega) k h1
        simp
        omega
theorem itoa_len {m : Int} (h1 : -9223372036854775808 ≤ m) (h2 : m ≤ 9223372036854775807) : (Go.Lib.itoa m).length ≤ 20 := by
  unfold Go.Lib.itoa
  have h10 : (10 : Nat) ^ 19 = 10000000000000000000 := by decide
  split
  · have := dec_len m.natAbs 18 (by omega)
    simp
    omega
  · have := dec_len m.toNat 18 (by omega)
    omega
end Go.Fv
namespace Go.Fv
open Go
theorem Run.sliceOne {H : Heap} {z : V} {k : IntKind} {n : Int} {Q : V → Heap → Prop} : Run (sliceV 1 1 [z] [(0, .int k n)]) H Q ↔ Q (.ref H.next 1 0 1 1 true) (H.add ⟨1, [[.int k n]]⟩) := by
  refine Run.eq ?_
  simp [sliceV, fillRows, V.cells?, newRows]
end Go.Fv
