/-
  Slices with memory of the call's own. By an AI agent; no person has read it.
-/
import Derived.Test.YtjjiphigolegbaaDoorFvSpec
set_option linter.unusedVariables false
set_option linter.unusedSimpArgs false
set_option linter.unusedSectionVars false
/-! Slices with memory of the call's own. -/
namespace Go.Fv
open Go

section
variable {H H' H'' : Heap} {x y : V} {sz : Nat} {rows items : List (List V)}

/-- What has changed between two heaps: old blocks only where 'p' says. -/
structure Frame (H H' : Heap) (p : Nat → Prop) : Prop where
  next : H.next ≤ H'.next
  floor : H'.floor = H.floor
  old : ∀ l, l < H.next → ¬ p l → H'.blk l = H.blk l
theorem Frame.refl (H : Heap) (p : Nat → Prop) : Frame H H p := ⟨Nat.le_refl _, rfl, fun _ _ _ => rfl⟩
theorem Frame.trans {p q r : Nat → Prop} (a : Frame H H' p) (b : Frame H' H'' q) (hp : ∀ l, l < H.next → p l → r l) (hq : ∀ l, l < H.next → q l → r l) : Frame H H'' r :=
  ⟨Nat.le_trans a.next b.next, b.floor.trans a.floor, fun l hl hr => (b.old l (Nat.lt_of_lt_of_le hl a.next) fun h => hr (hq l hl h)).trans (a.old l hl fun h => hr (hp l hl h))⟩
theorem Frame.mono {p q : Nat → Prop} (a : Frame H H' p) (hp : ∀ l, l < H.next → p l → q l) : Frame H H' q := ⟨a.next, a.floor, fun l hl hq => a.old l hl fun h => hq (hp l hl h)⟩
theorem Frame.add (b : Blk) (p : Nat → Prop) : Frame H (H.add b) p := ⟨Nat.le_succ _, rfl, fun _ hl _ => Heap.add_old hl⟩
theorem Frame.q (v : Nat → Bool) (p : Nat → Prop) : Frame H (H.q v) p := ⟨Nat.le_refl _, rfl, fun l hl _ => if_pos hl⟩
theorem Frame.set (b : Blk) (l : Nat) {p : Nat → Prop} (hp : p l) : Frame H (H.set l b) p := ⟨Nat.le_refl _, rfl, fun x _ h => if_neg fun (e : x = l) => h (e ▸ hp)⟩

def loc : V → Option Nat
  | .ref l _ _ _ _ _ => some l
  | _ => none

/-- A slice with memory of the call's own, and what it shows. -/
def Own (H : Heap) (x : V) (sz : Nat) (rows : List (List V)) : Prop :=
  (x = .nils ∨ x = .emp) ∧ rows = [] ∨ ∃ l n c ex b, x = .ref l sz 0 n c ex ∧ H.blk l = some b ∧ H.floor ≤ l ∧ l < H.next ∧ n ≤ c ∧ c ≤ b.rows.length ∧ b.rows.take n = rows

theorem Own.nils (H : Heap) (sz : Nat) : Own H .nils sz [] := .inl ⟨.inl rfl, rfl⟩
theorem Own.emp (H : Heap) (sz : Nat) : Own H .emp sz [] := .inl ⟨.inr rfl, rfl⟩
theorem Own.frame {p : Nat → Prop} (h : Own H x sz rows) (f : Frame H H' p) (hp : ∀ l, loc x = some l → ¬ p l) : Own H' x sz rows := by
  rcases h with h | ⟨l, n, c, ex, b, rfl, h1, h2, h3, h4⟩
  · exact .inl h
  · exact .inr ⟨l, n, c, ex, b, rfl, (f.old l h3 (hp l rfl)).trans h1, by rw [f.floor]; exact h2, Nat.lt_of_lt_of_le h3 f.next, h4⟩
theorem Own.lt (h : Own H x sz rows) {l : Nat} (hl : loc x = some l) : l < H.next := by
  rcases h with ⟨rfl | rfl, _⟩ | ⟨l', n, c, ex, b, rfl, h1, h2, h3, h4⟩
  · cases hl
  · cases hl
  · cases hl; exact h3
theorem Own.len (h : Own H x sz rows) : lenV x = some (.int .i64 (rows.length : Int)) := by
  rcases h with ⟨rfl | rfl, rfl⟩ | ⟨l, n, c, ex, b, rfl, h1, h2, h3, h4, h5, rfl⟩
  · rfl
  · rfl
  · have : min n b.rows.length = n := by omega
    simp [lenV, this]
theorem Own.shows (h : Own H x sz rows) : itemsV sz x H = some rows := by
  rcases h with ⟨rfl | rfl, rfl⟩ | ⟨l, n, c, ex, b, rfl, h1, h2, h3, h4, h5, rfl⟩
  · rfl
  · rfl
  · have : n ≤ b.rows.length := by omega
    simp [itemsV, h1, this]
theorem Own.cells (h : Own H x sz rows) : x.cells? = some [x] := by
  rcases h with ⟨rfl | rfl, rfl⟩ | ⟨l, n, c, ex, b, rfl, h⟩ <;> rfl

theorem Own.new (hH : H.floor ≤ H.next) (rows : List (List V)) (ex : Bool) : Own (H.add ⟨sz, rows⟩) (.ref H.next sz 0 rows.length rows.length ex) sz rows :=
  .inr ⟨H.next, rows.length, rows.length, ex, _, rfl, Heap.add_new _, hH, Nat.lt_succ_self _, Nat.le_refl _, Nat.le_refl _, List.take_length⟩

theorem appR_nil (bytes : Nat) (h : Own H x sz rows) : appR sz bytes x [] H = some (x, H) := by
  rcases h with ⟨rfl | rfl, rfl⟩ | ⟨l, n, c, ex, b, rfl, h⟩ <;> rfl

theorem Run.appR {bytes : Nat} (hH : H.floor ≤ H.next) (hx : Own H x sz rows) (hroom : (rows.length + items.length) * bytes ≤ room) :
    Run (Fv.appR sz bytes x items) H fun x' H' => Own H' x' sz (rows ++ items) ∧ Frame H H' (fun l => loc x = some l) ∧ (∀ l, loc x' = some l → loc x = some l ∨ H.next ≤ l) := by
  cases items with
  | nil => exact Run.of (appR_nil bytes hx) ⟨by rw [List.append_nil]; exact hx, Frame.refl _ _, fun l h => .inl h⟩
  | cons i is =>
    rcases hx with ⟨hx, rfl⟩ | ⟨l, n, c, ex, b, rfl, h1, h2, h3, h4, h5, rfl⟩
    · have e : Fv.appR sz bytes x (i :: is) H = some (.ref H.next sz 0 (i :: is).length (i :: is).length false, H.add ⟨sz, i :: is⟩) := by
        have hr : (i :: is).length * bytes ≤ room := by simpa using hroom
        rcases hx with rfl | rfl
        · simp only [Fv.appR, if_pos hr]; rfl
        · simp only [Fv.appR, if_pos hr]; rfl
      exact Run.of e ⟨Own.new hH _ _, Frame.add _ _, fun l h => .inr (by cases h; exact Nat.le_refl _)⟩
    · have hn : n ≤ b.rows.length := by omega
      have hlen : (b.rows.take n).length = n := by rw [List.length_take]; omega
      rw [hlen] at hroom
      by_cases hc : n + (i :: is).length ≤ c
      · have e : Fv.appR sz bytes (.ref l sz 0 n c ex) (i :: is) H = some (.ref l sz 0 (n + (i :: is).length) c ex, H.set l ⟨b.sz, b.rows.take n ++ (i :: is) ++ b.rows.drop (n + (i :: is).length)⟩) := by
          simp only [Fv.appR, if_true, h1, Option.bind_some, Nat.zero_add, if_pos hn, if_pos hc, if_pos h2]
        refine Run.of e ⟨.inr ⟨l, _, c, ex, _, rfl, by rw [Heap.set_blk, if_pos rfl], h2, h3, hc, ?_, ?_⟩, Frame.set _ _ rfl, fun l' h => .inl h⟩
        · simp only [List.length_append, List.length_take, List.length_drop]; omega
        · rw [List.take_append_of_le_length (by rw [List.length_append, hlen]; exact Nat.le_refl _), List.take_of_length_le (by rw [List.length_append, hlen]; exact Nat.le_refl _)]
      · have hr : Run (newRows sz (b.rows.take n ++ (i :: is)) false) (if ex then H else H.kill l) fun x' H' => Own H' x' sz (b.rows.take n ++ (i :: is)) ∧ Frame H H' (fun k => loc (.ref l sz 0 n c ex) = some k) ∧ (∀ k, loc x' = some k → loc (.ref l sz 0 n c ex) = some k ∨ H.next ≤ k) := by
          cases ex with
          | true => exact Run.of rfl ⟨Own.new hH _ _, Frame.add _ _, fun k h => .inr (by cases h; exact Nat.le_refl _)⟩
          | false =>
            refine Run.of rfl ⟨Own.new (H := H.kill l) hH _ _, ⟨Nat.le_succ _, rfl, fun k hk hn => ?_⟩, fun k h => .inr (by cases h; exact Nat.le_refl _)⟩
            rw [if_neg Bool.false_ne_true, Heap.add_old (by exact hk), Heap.kill_blk, if_neg fun e => hn (by rw [e]; rfl)]
        obtain ⟨r, H2, e2, q⟩ := hr
        refine ⟨r, H2, ?_, q⟩
        simp only [Fv.appR, if_true, h1, Option.bind_some, Nat.zero_add, if_pos hn, if_neg hc, if_pos hroom, List.drop_zero]
        cases ex with
        | true => rw [if_pos rfl] at e2 ⊢; exact e2
        | false => rw [if_neg Bool.false_ne_true] at e2 ⊢; rw [if_pos h2]; exact e2

theorem Run.app {bytes : Nat} (hH : H.floor ≤ H.next) (hx : Own H x sz rows) (hy : itemsV sz y H = some items) (hroom : (rows.length + items.length) * bytes ≤ room) :
    Run (Fv.appV sz bytes x y) H fun x' H' => Own H' x' sz (rows ++ items) ∧ Frame H H' (fun l => loc x = some l) ∧ (∀ l, loc x' = some l → loc x = some l ∨ H.next ≤ l) := by
  obtain ⟨r, H2, e, q⟩ := Run.appR (bytes := bytes) hH hx (items := items) hroom
  exact ⟨r, H2, by simp only [Fv.appV, hy, Option.bind_some]; exact e, q⟩

/-! ### What is handed over -/
/-- Fresh memory on its way. -/
def Gv (g : V) (sz : Nat) (rows : List (List V)) : Prop := (g = .nils ∨ g = .emp) ∧ rows = [] ∨ g = .own sz rows

theorem Own.give (h : Own H x sz rows) (hf : flatRows rows = true) {ls : List Nat} (hls : ∀ l, loc x = some l → l ∉ ls) :
    ∃ g, give H x ls = some (g, (loc x).toList ++ ls) ∧ Gv g sz rows := by
  rcases h with ⟨rfl | rfl, rfl⟩ | ⟨l, n, c, ex, b, rfl, h1, h2, h3, h4, h5, rfl⟩
  · exact ⟨.nils, rfl, .inl ⟨.inl rfl, rfl⟩⟩
  · exact ⟨.emp, rfl, .inl ⟨.inr rfl, rfl⟩⟩
  · refine ⟨.own sz (b.rows.take n), ?_, .inr rfl⟩
    have : n ≤ b.rows.length := by omega
    simp [Fv.give, h1, this, hf, hls l rfl, loc]
theorem Own.thaw (h : Own H x sz rows) (hf : flatRows rows = true) (ok : Bool) : ∃ y, thaw ok H x = some y ∧ Sls y sz rows := by
  rcases h with ⟨rfl | rfl, rfl⟩ | ⟨l, n, c, ex, b, rfl, h1, h2, h3, h4, h5, rfl⟩
  · exact ⟨.nils, rfl, Sls.nils _⟩
  · exact ⟨.emp, rfl, Sls.emp _⟩
  · refine ⟨.imm sz (b.rows.take n), ?_, Sls.imm _ _⟩
    have : n ≤ b.rows.length := by omega
    simp [Fv.thaw, h1, this, hf]
theorem Gv.take (h : Gv x sz rows) (hH : H.floor ≤ H.next) : Run (take1 x) H fun x' H' => Own H' x' sz rows ∧ Frame H H' (fun _ => False) ∧ (∀ l, loc x' = some l → H.next ≤ l) := by
  rcases h with ⟨rfl | rfl, rfl⟩ | rfl
  · exact Run.of rfl ⟨Own.nils _ _, Frame.refl _ _, fun l h => by cases h⟩
  · exact Run.of rfl ⟨Own.emp _ _, Frame.refl _ _, fun l h => by cases h⟩
  · exact Run.of rfl ⟨Own.new hH _ _, Frame.add _ _, fun l h => by cases h; exact Nat.le_refl _⟩

theorem Own.hand (h : Own H' x sz rows) (hf : flatRows rows = true) (hH : H.floor ≤ H.next) :
    ∃ g, giveV H' x = some g ∧ Run (takeV g) H fun y H'' => Own H'' y sz rows ∧ Frame H H'' (fun _ => False) ∧ ∀ l, loc y = some l → H.next ≤ l := by
  obtain ⟨g, h1, h2⟩ := h.give hf (ls := []) (fun _ _ => by simp)
  refine ⟨g, ?_, ?_⟩
  · rcases h with ⟨rfl | rfl, rfl⟩ | ⟨l, n, c, ex, b, rfl, _⟩ <;> simp only [giveV, give2, h1, Option.bind_some]
  · have : takeV g = take1 g := by
      rcases h2 with ⟨rfl | rfl, rfl⟩ | rfl <;> rfl
    rw [this]
    exact h2.take hH

theorem Run.qrunI {v : Nat → Bool} {m : M V} {Q : V → Heap → Prop} (h : Run m ⟨fun l => if v l then H.blk l else none, H.next, H.next⟩ fun r H' => Q r ⟨fun l => if l < H.next then H.blk l else H'.blk l, H'.next, H.floor⟩) : Run (qrun v m) H Q := by
  obtain ⟨r, H', e, q⟩ := h
  exact ⟨r, _, by simp only [qrun, e, Option.bind_some], q⟩
/-- A call that is shown a part of the heap and hands back new memory. -/
theorem Own.merge {K : Heap} (h : Own H' x sz rows) (f : Frame K H' (fun _ => False)) (hK : K.next = H.next) (hl : ∀ l, loc x = some l → H.next ≤ l) (hH : H.floor ≤ H.next) :
    Own ⟨fun l => if l < H.next then H.blk l else H'.blk l, H'.next, H.floor⟩ x sz rows := by
  rcases h with h | ⟨l, n, c, ex, b, rfl, h1, h2, h3, h4⟩
  · exact .inl h
  · have := hl l rfl
    exact .inr ⟨l, n, c, ex, b, rfl, by simp only [if_neg (Nat.not_lt.2 this)]; exact h1, by show H.floor ≤ l; omega, h3, h4⟩
theorem Frame.merge {K : Heap} (f : Frame K H' (fun _ => False)) (hK : K.next = H.next) (p : Nat → Prop) : Frame H ⟨fun l => if l < H.next then H.blk l else H'.blk l, H'.next, H.floor⟩ p :=
  ⟨by show H.next ≤ H'.next; rw [← hK]; exact f.next, rfl, fun l hl _ => if_pos hl⟩
theorem Run.qfresh {v : Nat → Bool} {m : M V} {Q : V → Heap → Prop} (hH : H.floor ≤ H.next)
    (h : ∀ K : Heap, K.next = H.next → K.floor ≤ K.next → Run m K fun y K' => Own K' y sz rows ∧ Frame K K' (fun _ => False) ∧ ∀ l, loc y = some l → K.next ≤ l)
    (q : ∀ y H', Own H' y sz rows → Frame H H' (fun _ => False) → (∀ l, loc y = some l → H.next ≤ l) → Q y H') : Run (qrun v m) H Q := by
  refine Run.qrunI ((h ⟨fun l => if v l then H.blk l else none, H.next, H.next⟩ rfl (Nat.le_refl _)).mono fun y K' ⟨o, f, hl⟩ => q _ _ (Own.merge (H := H) o f rfl hl hH) (Frame.merge (H := H) f rfl _) hl)

theorem Own.idx (h : Own H x sz rows) {k : IntKind} {i : Nat} (hi : i < rows.length) : ∃ l b, loc x = some l ∧ idxV sz x (.int k (i : Int)) = some (.ptr l i 0) ∧ H.blk l = some b ∧ b.rows[i]? = some rows[i] ∧ H.floor ≤ l := by
  rcases h with ⟨_, rfl⟩ | ⟨l, n, c, ex, b, rfl, h1, h2, h3, h4, h5, rfl⟩
  · simp at hi
  · have hn : i < n := by rw [List.length_take] at hi; omega
    refine ⟨l, b, rfl, by simp [idxV, hn], h1, ?_, h2⟩
    rw [List.getElem_take]
    exact List.getElem?_eq_getElem _
theorem Run.slice0 {z : List V} {Q : V → Heap → Prop} : Run (sliceV sz 0 z []) H Q ↔ Q .emp H := Run.eq rfl
end
end Go.Fv
