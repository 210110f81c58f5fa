/-
  Slices with memory of the call's own. By an AI agent; no person has read it.
-/
import Derived.Test.YtekncgjkocgioaaGreatDoorFvP11
set_option linter.unusedVariables false
set_option linter.unusedSimpArgs false
set_option linter.unusedSectionVars false
/-! Slices with memory of the call's own. -/
namespace Go.Fv
open Go
section
variable {H H' H'':Heap} {x y:V} {sz:Nat} {rows items:List (List V)}
structure Frame (H H':Heap) (p:Nat → Prop):Prop where
 next:H.next ≤ H'.next
 floor:H'.floor = H.floor
 old:∀ l,l < H.next → ¬ p l → H'.blk l = H.blk l
theorem Frame.refl (H:Heap) (p:Nat → Prop):Frame H H p:=⟨Nat.le_refl _,rfl,fun _ _ _ => rfl⟩
theorem Frame.trans {p q r:Nat → Prop} (a:Frame H H' p) (b:Frame H' H'' q) (hp:∀ l,l < H.next → p l → r l) (hq:∀ l,l < H.next → q l → r l):Frame H H'' r :=
 ⟨Nat.le_trans a.next b.next,b.floor.trans a.floor,fun l hl hr => (b.old l (Nat.lt_of_lt_of_le hl a.next) fun h => hr (hq l hl h)).trans (a.old l hl fun h => hr (hp l hl h))⟩
theorem Frame.mono {p q:Nat → Prop} (a:Frame H H' p) (hp:∀ l,l < H.next → p l → q l):Frame H H' q:=⟨a.next,a.floor,fun l hl hq => a.old l hl fun h => hq (hp l hl h)⟩
theorem Frame.add (b:Blk) (p:Nat → Prop):Frame H (H.add b) p:=⟨Nat.le_succ _,rfl,fun _ hl _ => Heap.add_old hl⟩
theorem Frame.q (v:Nat → Bool) (p:Nat → Prop):Frame H (H.q v) p:=⟨Nat.le_refl _,rfl,fun l hl _ => if_pos hl⟩
theorem Frame.set (b:Blk) (l:Nat) {p:Nat → Prop} (hp:p l):Frame H (H.set l b) p:=⟨Nat.le_refl _,rfl,fun x _ h => if_neg fun (e:x = l) => h (e ▸ hp)⟩
def loc:V → Option Nat
 | .ref l _ _ _ _ _ => some l
 | _ => none
def Own (H:Heap) (x:V) (sz:Nat) (rows:List (List V)):Prop :=
 (x = .nils ∨ x = .emp) ∧ rows = [] ∨ ∃ l n c ex b,x = .ref l sz 0 n c ex ∧ H.blk l = some b ∧ H.floor ≤ l ∧ l < H.next ∧ n ≤ c ∧ c ≤ b.rows.length ∧ b.rows.take n = rows
theorem Own.nils (H:Heap) (sz:Nat):Own H .nils sz []:=.inl ⟨.inl rfl,rfl⟩
theorem Own.emp (H:Heap) (sz:Nat):Own H .emp sz []:=.inl ⟨.inr rfl,rfl⟩
theorem Own.frame {p:Nat → Prop} (h:Own H x sz rows) (f:Frame H H' p) (hp:∀ l,loc x = some l → ¬ p l):Own H' x sz rows:=by
 rcases h with h | ⟨l,n,c,ex,b,rfl,h1,h2,h3,h4⟩
 ·exact .inl h
 ·exact .inr ⟨l,n,c,ex,b,rfl,(f.old l h3 (hp l rfl)).trans h1,by rw [f.floor]; exact h2,Nat.lt_of_lt_of_le h3 f.next,h4⟩
theorem Own.lt (h:Own H x sz rows) {l:Nat} (hl:loc x = some l):l < H.next:=by
 rcases h with ⟨rfl | rfl,_⟩ | ⟨l',n,c,ex,b,rfl,h1,h2,h3,h4⟩
 ·cases hl
 ·cases hl
 ·cases hl; exact h3
theorem Own.len (h:Own H x sz rows):lenV x = some (.int .i64 (rows.length:Int)):=by
 rcases h with ⟨rfl | rfl,rfl⟩ | ⟨l,n,c,ex,b,rfl,h1,h2,h3,h4,h5,rfl⟩
 ·rfl
 ·rfl
 ·have:min n b.rows.length = n:=by omega
  simp [lenV,this]
theorem Own.cells (h:Own H x sz rows):x.cells? = some [x]:=by
 rcases h with ⟨rfl | rfl,rfl⟩ | ⟨l,n,c,ex,b,rfl,h⟩ <;> rfl
theorem Own.new (hH:H.floor ≤ H.next) (rows:List (List V)) (ex:Bool):Own (H.add ⟨sz,rows⟩) (.ref H.next sz 0 rows.length rows.length ex) sz rows :=
 .inr ⟨H.next,rows.length,rows.length,ex,_,rfl,Heap.add_new _,hH,Nat.lt_succ_self _,Nat.le_refl _,Nat.le_refl _,List.take_length⟩
theorem appR_nil (bytes:Nat) (h:Own H x sz rows):appR sz bytes x [] H = some (x,H):=by
 rcases h with ⟨rfl | rfl,rfl⟩ | ⟨l,n,c,ex,b,rfl,h⟩ <;> rfl
theorem Run.appR {bytes : Nat} (hH : H.floor ≤ H.next) (hx : Own H x sz rows) (hroom : (rows.length + items.length) * bytes ≤ room) :
    Run (Fv.appR sz bytes x items) H fun x' H' => Own H' x' sz (rows ++ items) ∧ Frame H H' (fun l => loc x = some l) ∧ (∀ l,loc x' = some l → loc x = some l ∨ H.next ≤ l):=by
  cases items with
  | nil => exact Run.of (appR_nil bytes hx) ⟨by rw [List.append_nil]; exact hx,Frame.refl _ _,fun l h => .inl h⟩
  | cons i is =>
    rcases hx with ⟨hx,rfl⟩ | ⟨l,n,c,ex,b,rfl,h1,h2,h3,h4,h5,rfl⟩
    · have e : Fv.appR sz bytes x (i :: is) H = some (.ref H.next sz 0 (i :: is).length (i :: is).length false, H.add ⟨sz, i :: is⟩) := by
        have hr:(i :: is).length * bytes ≤ room:=by simpa using hroom
        rcases hx with rfl | rfl
        · simp only [Fv.appR,if_pos hr]; rfl
        · simp only [Fv.appR,if_pos hr]; rfl
      exact Run.of e ⟨Own.new hH _ _,Frame.add _ _,fun l h => .inr (by cases h; exact Nat.le_refl _)⟩
    · have hn : n ≤ b.rows.length := by omega
      have hlen:(b.rows.take n).length = n:=by rw [List.length_take]; omega
      rw [hlen] at hroom
      by_cases hc:n + (i :: is).length ≤ c
      · have e : Fv.appR sz bytes (.ref l sz 0 n c ex) (i :: is) H = some (.ref l sz 0 (n + (i :: is).length) c ex, H.set l ⟨b.sz, b.rows.take n ++ (i :: is) ++ b.rows.drop (n + (i :: is).length)⟩) := by
          simp only [Fv.appR,if_true,h1,Option.bind_some,Nat.zero_add,if_pos hn,if_pos hc,if_pos h2]
        refine Run.of e ⟨.inr ⟨l,_,c,ex,_,rfl,by rw [Heap.set_blk,if_pos rfl],h2,h3,hc,?_,?_⟩,Frame.set _ _ rfl,fun l' h => .inl h⟩
        · simp only [List.length_append,List.length_take,List.length_drop]; omega
        · rw [List.take_append_of_le_length (by rw [List.length_append,hlen]; exact Nat.le_refl _),List.take_of_length_le (by rw [List.length_append,hlen]; exact Nat.le_refl _)]
      · have hr : Run (newRows sz (b.rows.take n ++ (i :: is)) false) (if ex then H else H.kill l) fun x' H' => Own H' x' sz (b.rows.take n ++ (i :: is)) ∧ Frame H H' (fun k => loc (.ref l sz 0 n c ex) = some k) ∧ (∀ k, loc x' = some k → loc (.ref l sz 0 n c ex) = some k ∨ H.next ≤ k) := by
          cases ex with
          | true => exact Run.of rfl ⟨Own.new hH _ _,Frame.add _ _,fun k h => .inr (by cases h; exact Nat.le_refl _)⟩
          | false =>
            refine Run.of rfl ⟨Own.new (H:=H.kill l) hH _ _,⟨Nat.le_succ _,rfl,fun k hk hn => ?_⟩,fun k h => .inr (by cases h; exact Nat.le_refl _)⟩
            rw [if_neg Bool.false_ne_true,Heap.add_old (by exact hk),Heap.kill_blk,if_neg fun e => hn (by rw [e]; rfl)]
        obtain ⟨r,H2,e2,q⟩:=hr
        refine ⟨r,H2,?_,q⟩
        simp only [Fv.appR,if_true,h1,Option.bind_some,Nat.zero_add,if_pos hn,if_neg hc,if_pos hroom,List.drop_zero]
        cases ex with
        | true => rw [if_pos rfl] at e2 ⊢; exact e2
        | false => rw [if_neg Bool.false_ne_true] at e2 ⊢; rw [if_pos h2]; exact e2
theorem Run.app {bytes:Nat} (hH:H.floor ≤ H.next) (hx:Own H x sz rows) (hy:itemsV sz y H = some items) (hroom:(rows.length + items.length) * bytes ≤ room) :
  Run (Fv.appV sz bytes x y) H fun x' H' => Own H' x' sz (rows ++ items) ∧ Frame H H' (fun l => loc x = some l) ∧ (∀ l,loc x' = some l → loc x = some l ∨ H.next ≤ l):=by
 obtain ⟨r,H2,e,q⟩:=Run.appR (bytes:=bytes) hH hx (items:=items) hroom
 exact ⟨r,H2,by simp only [Fv.appV,hy,Option.bind_some]; exact e,q⟩
def Gv (g:V) (sz:Nat) (rows:List (List V)):Prop:=(g = .nils ∨ g = .emp) ∧ rows = [] ∨ g = .own sz rows
theorem Own.give (h:Own H x sz rows) (hf:flatRows rows = true) {ls:List Nat} (hls:∀ l,loc x = some l → l ∉ ls) :
  ∃ g,give H x ls = some (g,(loc x).toList ++ ls) ∧ Gv g sz rows:=by
 rcases h with ⟨rfl | rfl,rfl⟩ | ⟨l,n,c,ex,b,rfl,h1,h2,h3,h4,h5,rfl⟩
 ·exact ⟨.nils,rfl,.inl ⟨.inl rfl,rfl⟩⟩
 ·exact ⟨.emp,rfl,.inl ⟨.inr rfl,rfl⟩⟩
 ·refine ⟨.own sz (b.rows.take n),?_,.inr rfl⟩
  have:n ≤ b.rows.length:=by omega
  simp [Fv.give,h1,this,hf,hls l rfl,loc]
theorem Own.thaw (h:Own H x sz rows) (hf:flatRows rows = true) (ok:Bool):∃ y,thaw ok H x = some y ∧ Sls y sz rows:=by
 rcases h with ⟨rfl | rfl,rfl⟩ | ⟨l,n,c,ex,b,rfl,h1,h2,h3,h4,h5,rfl⟩
 ·exact ⟨.nils,rfl,Sls.nils _⟩
 ·exact ⟨.emp,rfl,Sls.emp _⟩
 ·refine ⟨.imm sz (b.rows.take n),?_,Sls.imm _ _⟩
  have:n ≤ b.rows.length:=by omega
  simp [Fv.thaw,h1,this,hf]
theorem Gv.take (h:Gv x sz rows) (hH:H.floor ≤ H.next):Run (take1 x) H fun x' H' => Own H' x' sz rows ∧ Frame H H' (fun _ => False) ∧ (∀ l,loc x' = some l → H.next ≤ l):=by
 rcases h with ⟨rfl | rfl,rfl⟩ | rfl
 ·exact Run.of rfl ⟨Own.nils _ _,Frame.refl _ _,fun l h => by cases h⟩
 ·exact Run.of rfl ⟨Own.emp _ _,Frame.refl _ _,fun l h => by cases h⟩
 ·exact Run.of rfl ⟨Own.new hH _ _,Frame.add _ _,fun l h => by cases h; exact Nat.le_refl _⟩
theorem Own.hand (h:Own H' x sz rows) (hf:flatRows rows = true) (hH:H.floor ≤ H.next) :
  ∃ g,giveV H' x = some g ∧ Run (takeV g) H fun y H'' => Own H'' y sz rows ∧ Frame H H'' (fun _ => False) ∧ ∀ l,loc y = some l → H.next ≤ l:=by
 obtain ⟨g,h1,h2⟩:=h.give hf (ls:=[]) (fun _ _ => by simp)
 refine ⟨g,?_,?_⟩
 ·rcases h with ⟨rfl | rfl,rfl⟩ | ⟨l,n,c,ex,b,rfl,_⟩ <;> simp only [giveV,give2,h1,Option.bind_some]
 ·have:takeV g = take1 g:=by
   rcases h2 with ⟨rfl | rfl,rfl⟩ | rfl <;> rfl
  rw [this]
  exact h2.take hH
theorem Run.qrunI {v:Nat → Bool} {m:M V} {Q:V → Heap → Prop} (h:Run m ⟨fun l => if v l then H.blk l else none,H.next,H.next⟩ fun r H' => Q r ⟨fun l => if l < H.next then H.blk l else H'.blk l,H'.next,H.floor⟩):Run (qrun v m) H Q:=by
 obtain ⟨r,H',e,q⟩:=h
 exact ⟨r,_,by simp only [qrun,e,Option.bind_some],q⟩
theorem Own.merge {K:Heap} (h:Own H' x sz rows) (f:Frame K H' (fun _ => False)) (hK:K.next = H.next) (hl:∀ l,loc x = some l → H.next ≤ l) (hH:H.floor ≤ H.next) :
  Own ⟨fun l => if l < H.next then H.blk l else H'.blk l,H'.next,H.floor⟩ x sz rows:=by
 rcases h with h | ⟨l,n,c,ex,b,rfl,h1,h2,h3,h4⟩
 ·exact .inl h
 ·have:=hl l rfl
  exact .inr ⟨l,n,c,ex,b,rfl,by simp only [if_neg (Nat.not_lt.2 this)]; exact h1,by show H.floor ≤ l; omega,h3,h4⟩
theorem Frame.merge {K:Heap} (f:Frame K H' (fun _ => False)) (hK:K.next = H.next) (p:Nat → Prop):Frame H ⟨fun l => if l < H.next then H.blk l else H'.blk l,H'.next,H.floor⟩ p :=
 ⟨by show H.next ≤ H'.next; rw [← hK]; exact f.next,rfl,fun l hl _ => if_pos hl⟩
def Heap.t (H:Heap) (v:Nat → Bool) (K':Heap):Heap:=⟨fun l => if l < H.next then (if v l && decide (H.floor ≤ l) && (H.blk l).isSome then K'.blk l else H.blk l) else K'.blk l,K'.next,H.floor⟩
theorem Run.trunI {v:Nat → Bool} {m:M V} {Q:V → Heap → Prop} (h:Run m ⟨fun l => if v l then H.blk l else none,H.next,H.floor⟩ fun r K' => Q r (H.t v K')):Run (trun v m) H Q:=by
 obtain ⟨r,H',e,q⟩:=h
 exact ⟨r,_,by simp only [trun,e,Option.bind_some]; rfl,q⟩
theorem Own.mask {v:Nat → Bool} (h:Own H x sz rows) (hv:∀ l,loc x = some l → v l = true) (f:Nat) (hf:∀ l,loc x = some l → f ≤ l):Own ⟨fun l => if v l then H.blk l else none,H.next,f⟩ x sz rows:=by
 rcases h with h | ⟨l,n,c,ex,b,rfl,h1,h2,h3,h4⟩
 ·exact .inl h
 ·exact .inr ⟨l,n,c,ex,b,rfl,by simp only [hv l rfl,if_true]; exact h1,hf l rfl,h3,h4⟩
theorem Frame.t {v:Nat → Bool} {p:Nat → Prop} {K':Heap} (f:Frame ⟨fun l => if v l then H.blk l else none,H.next,H.floor⟩ K' p):Frame H (H.t v K') p :=
 ⟨f.next,rfl,fun l hl hp => by
  have:=f.old l hl hp
  simp only [Heap.t,if_pos hl]
  split
  ·rename_i hc
   simp only [Bool.and_eq_true] at hc
   rw [this]
   simp only [hc.1.1,if_true]
  ·rfl⟩
theorem Own.t {v:Nat → Bool} {K':Heap} {y:V} {rows':List (List V)} (hy:Own K' y sz rows') (hH:H.floor ≤ H.next)
  (hl:∀ l,loc y = some l → (v l = true ∧ H.floor ≤ l ∧ ∃ b,H.blk l = some b) ∨ H.next ≤ l):Own (H.t v K') y sz rows':=by
 rcases hy with h | ⟨l,n,c,ex,b,rfl,h1,h2,h3,h4⟩
 ·exact .inl h
 ·refine .inr ⟨l,n,c,ex,b,rfl,?_,?_,h3,h4⟩
  ·simp only [Heap.t]
   rcases hl l rfl with ⟨q1,q2,b',q3⟩ | q
   ·by_cases hlt:l < H.next
    ·rw [if_pos hlt,q1,decide_eq_true q2,q3]; exact h1
    ·rw [if_neg hlt]; exact h1
   ·rw [if_neg (by omega)]; exact h1
  ·show H.floor ≤ l
   rcases hl l rfl with ⟨_,q2,_⟩ | q
   ·exact q2
   ·omega
theorem Run.tapp {v:Nat → Bool} {bytes:Nat} (hH:H.floor ≤ H.next) (hx:Own H x sz rows) (hv:∀ l,loc x = some l → v l = true)
  (hy:itemsV sz y ⟨fun l => if v l then H.blk l else none,H.next,H.floor⟩ = some items) (hroom:(rows.length + items.length) * bytes ≤ room) :
  Run (trun v (Fv.appV sz bytes x y)) H fun x' H' => Own H' x' sz (rows ++ items) ∧ Frame H H' (fun l => loc x = some l) ∧ (∀ l,loc x' = some l → loc x = some l ∨ H.next ≤ l):=by
 have hfl:∀ l,loc x = some l → H.floor ≤ l ∧ ∃ b,H.blk l = some b:=fun l hl => by
  rcases hx with ⟨rfl | rfl,_⟩ | ⟨l',n,c,ex,b,rfl,h1,h2,h3,h4⟩
  ·cases hl
  ·cases hl
  ·cases hl; exact ⟨h2,b,h1⟩
 refine Run.trunI ((Run.app (H:=⟨fun l => if v l then H.blk l else none,H.next,H.floor⟩) hH (hx.mask hv H.floor fun l hl => (hfl l hl).1) hy hroom).mono fun x' K' ⟨o,f,hl⟩ => ⟨?_,f.t,hl⟩)
 exact o.t hH fun l h => (hl l h).imp (fun h => ⟨hv l h,hfl l h⟩) id
theorem Own.idx (h:Own H x sz rows) {k:IntKind} {i:Nat} (hi:i < rows.length):∃ l b,loc x = some l ∧ idxV sz x (.int k (i:Int)) = some (.ptr l i 0) ∧ H.blk l = some b ∧ b.rows[i]? = some rows[i] ∧ H.floor ≤ l:=by
 rcases h with ⟨_,rfl⟩ | ⟨l,n,c,ex,b,rfl,h1,h2,h3,h4,h5,rfl⟩
 ·simp at hi
 ·have hn:i < n:=by rw [List.length_take] at hi; omega
  refine ⟨l,b,rfl,by simp [idxV,hn],h1,?_,h2⟩
  rw [List.getElem_take]
  exact List.getElem?_eq_getElem _
theorem Run.slice0 {z:List V} {Q:V → Heap → Prop}:Run (sliceV sz 0 z []) H Q ↔ Q .emp H:=Run.eq rfl
end
end Go.Fv
namespace Go.Fv.Pl
structure Tm where
 proc:Int
 due:Int
 deriving DecidableEq
structure Pr where
 regs:List Int
 pc:Int
 state:Int
 prio:Int
 wait:Int
 obj:Int
 deriving DecidableEq
structure Tab where
 ps:List Pr
 q:List Int
 ts:List Tm
 deriving DecidableEq
section
variable {α:Type}
theorem take_snoc {l : List α} {i : Nat} (h : i < l.length) : l.take (i + 1) = l.take i ++ [l[i]] := by
  induction l generalizing i with
  | nil => simp at h
  | cons a l ih =>
    cases i with
    | zero => rfl
    | succ i => simp only [List.take_succ_cons,List.getElem_cons_succ,List.cons_append,ih (by simpa using h)]
theorem take_all {l:List α} {i:Nat} (h:l.length ≤ i):l.take i = l:=List.take_of_length_le h
theorem last_take {l:List α} {i:Nat} (h:i < l.length):(l.take (i + 1)).getLast? = some l[i]:=by
 rw [take_snoc h,List.getLast?_append]; simp
end
def before (a b:Tm):Prop:=a.due < b.due ∨ a.due = b.due ∧ a.proc < b.proc
instance (a b:Tm):Decidable (before a b):=inferInstanceAs (Decidable (_ ∨ _ ∧ _))
def right (n:Int) (t:Tm):Prop:=0 ≤ t.proc ∧ t.proc < n ∧ 0 ≤ t.due ∧ t.due ≤ 1010000
instance (n:Int) (t:Tm):Decidable (right n t):=inferInstanceAs (Decidable (_ ∧ _ ∧ _ ∧ _))
inductive TsOk (n:Int):List Tm → Prop where
 | nil:TsOk n []
 | snoc {l:List Tm} {t:Tm}:TsOk n l → right n t → t.proc ∉ l.map Tm.proc → (∀ a,l.getLast? = some a → before a t) → TsOk n (l ++ [t])
theorem snoc_inj {α:Type} {l l':List α} {a b:α} (h:l ++ [a] = l' ++ [b]):l = l' ∧ a = b:=by
 have:=List.append_inj' h rfl
 exact ⟨this.1,by simpa using this.2⟩
theorem TsOk_snoc {n : Int} {l : List Tm} {t : Tm} : TsOk n (l ++ [t]) ↔ TsOk n l ∧ right n t ∧ t.proc ∉ l.map Tm.proc ∧ ∀ a, l.getLast? = some a → before a t := by
  constructor
  · intro h
    generalize e:l ++ [t] = m at h
    cases h with
    | nil => simp at e
    | snoc h1 h2 h3 h4 =>
      obtain ⟨rfl,rfl⟩:=snoc_inj e
      exact ⟨h1,h2,h3,h4⟩
  · rintro ⟨h1,h2,h3,h4⟩
    exact .snoc h1 h2 h3 h4
theorem TsOk.take {n : Int} {l : List Tm} (h : TsOk n l) : ∀ i, TsOk n (l.take i) := by
  induction h with
  | nil => intro i; simp; exact .nil
  | snoc h1 h2 h3 h4 ih =>
    rename_i l t
    intro i
    by_cases hi:i ≤ l.length
    · rw [List.take_append_of_le_length hi]; exact ih i
    · rw [take_all (by simp; omega)]; exact .snoc h1 h2 h3 h4
theorem TsOk.mem {n : Int} {l : List Tm} (h : TsOk n l) : ∀ t ∈ l, right n t := by
  induction h with
  | nil => intro t h; simp at h
  | snoc h1 h2 h3 h4 ih =>
    intro t ht
    rcases List.mem_append.1 ht with h | h
    · exact ih t h
    · rw [List.mem_singleton] at h; subst h; exact h2
theorem TsOk.nodup {n : Int} {l : List Tm} (h : TsOk n l) : (l.map Tm.proc).Nodup := by
  induction h with
  | nil => exact List.nodup_nil
  | snoc h1 h2 h3 h4 ih =>
    rename_i l t
    rw [List.map_append,List.nodup_append]
    refine ⟨ih,by simp,fun a ha b hb => ?_⟩
    simp at hb
    subst hb
    exact fun e => h3 (e ▸ ha)
theorem before.trans {a b c:Tm} (h:before a b) (h':before b c):before a c:=by
 unfold before at *
 omega
theorem TsOk.pairwise {n : Int} {l : List Tm} (h : TsOk n l) : l.Pairwise before := by
  induction h with
  | nil => exact .nil
  | snoc h1 h2 h3 h4 ih =>
    rename_i l t
    rw [List.pairwise_append]
    refine ⟨ih,by simp,fun a ha b hb => ?_⟩
    rw [List.mem_singleton] at hb
    subst hb
    rcases List.eq_nil_or_concat l with rfl | ⟨l',z,e⟩
    · simp at ha
    · rw [List.concat_eq_append] at e
      subst e
      have hz:=h4 z (by simp)
      rcases List.mem_append.1 ha with h | h
      · exact ((List.pairwise_append.1 ih).2.2 a h z (by simp)).trans hz
      · rw [List.mem_singleton] at h; subst h; exact hz
theorem TsOk_iff {n : Int} {l : List Tm} : TsOk n l ↔ (∀ t ∈ l, right n t) ∧ (l.map Tm.proc).Nodup ∧ l.Pairwise before := by
  refine ⟨fun h => ⟨h.mem,h.nodup,h.pairwise⟩,fun ⟨h1,h2,h3⟩ => ?_⟩
  have main : ∀ i, i ≤ l.length → TsOk n (l.take i) := by
    intro i
    induction i with
    | zero => intro _; simp; exact .nil
    | succ i ih =>
      intro hi
      rw [take_snoc (by omega)]
      refine .snoc (ih (by omega)) (h1 _ (List.getElem_mem _)) ?_ fun a ha => ?_
      · have : (l.map Tm.proc).take (i + 1) = (l.take i).map Tm.proc ++ [l[i].proc] := by
          rw [take_snoc (by simp; omega)]; simp
        have hn:((l.map Tm.proc).take (i + 1)).Nodup:=List.Nodup.sublist (List.take_sublist _ _) h2
        rw [this,List.nodup_append] at hn
        exact fun hm => hn.2.2 _ hm _ (by simp) rfl
      · have:(l.take (i + 1)).Pairwise before:=List.Pairwise.sublist (List.take_sublist _ _) h3
        rw [take_snoc (by omega),List.pairwise_append] at this
        exact this.2.2 a (List.mem_of_getLast? ha) _ (by simp)
  have:=main l.length (Nat.le_refl _)
  rwa [take_all (Nat.le_refl _)] at this
instance (n:Int) (l:List Tm):Decidable (TsOk n l):=decidable_of_iff _ TsOk_iff.symm
def timed (ts:List Tm) (i:Int):Prop:=i ∈ ts.map Tm.proc
instance (ts:List Tm) (i:Int):Decidable (timed ts i):=inferInstanceAs (Decidable (_ ∈ _))
def PrOk (p:Pr):Prop:=p.regs[0]? = some 0 ∧ (0 ≤ p.state ∧ p.state ≤ 3) ∧ (0 ≤ p.prio ∧ p.prio ≤ 255) ∧ (0 ≤ p.wait ∧ p.wait ≤ 4) ∧ (p.wait ≠ 0 ↔ p.state = 2) ∧ 0 ≤ p.obj ∧ (p.obj = 0 ∨ p.wait ≠ 0 ∧ p.wait ≠ 1)
instance (p:Pr):Decidable (PrOk p):=inferInstanceAs (Decidable (_ ∧ _ ∧ _ ∧ _ ∧ _ ∧ _ ∧ _))
def RowOk (ts:List Tm) (i:Int) (p:Pr):Prop:=PrOk p ∧ (timed ts i → p.state = 2) ∧ (¬ timed ts i → p.wait ≠ 1)
instance (ts:List Tm) (i:Int) (p:Pr):Decidable (RowOk ts i p):=inferInstanceAs (Decidable (_ ∧ (_ → _) ∧ (¬ _ → _)))
def at? (ps:List Pr) (n:Int):Option Pr:=if 0 ≤ n then ps[n.toNat]? else none
def isReady (ps:List Pr) (n:Int):Prop:=(at? ps n).map Pr.state = some 1
instance (ps:List Pr) (n:Int):Decidable (isReady ps n):=inferInstanceAs (Decidable (_ = _))
def QOk (ps:List Pr) (q:List Int):Prop:=(∀ n ∈ q,isReady ps n) ∧ q.Nodup ∧ ∀ i,i < ps.length → isReady ps (i:Nat) → ((i:Nat):Int) ∈ q
instance (ps:List Pr) (q:List Int):Decidable (QOk ps q):=inferInstanceAs (Decidable (_ ∧ _ ∧ ∀ i,i < _ → _))
structure TabOk (t:Tab):Prop where
 few:t.ps.length ≤ 8
 ts:TsOk t.ps.length t.ts
 ps:∀ (i:Nat) p,t.ps[i]? = some p → RowOk t.ts i p
 q:QOk t.ps t.q
def prio (ps:List Pr) (n:Int):Int:=((at? ps n).map Pr.prio).getD 0
def best (f:Int → Int) (b:Int) (l:List Int):Int:=l.foldl (fun b n => if f n > f b then n else b) b
def yield (q:List Int) (p:Int):List Int:=q.filter (· ≠ p) ++ [p]
theorem at?_lt {ps:List Pr} {n:Int} {p:Pr} (h:at? ps n = some p):0 ≤ n ∧ n < ps.length:=by
 unfold at? at h
 split at h
 ·obtain ⟨h1,_⟩:=List.getElem?_eq_some_iff.1 h
  omega
 ·cases h
theorem isReady.lt {ps:List Pr} {n:Int} (h:isReady ps n):0 ≤ n ∧ n < ps.length:=by
 unfold isReady at h
 cases e:at? ps n with
 | none => rw [e] at h; cases h
 | some p => exact at?_lt e
theorem best_first (f : Int → Int) (m : Int) : ∀ (l : List Int) (b : Int), f b ≤ m → (∀ n ∈ l, f n ≤ m) →
    (f b = m → best f b l = b) ∧ (f b < m → ∀ x r,l.filter (f · = m) = x :: r → best f b l = x)
  | [],b,_,_ => ⟨fun _ => rfl,fun _ x r h => by simp at h⟩
  | a :: l, b, hb, hl => by
    have e:best f b (a :: l) = best f (if f a > f b then a else b) l:=rfl
    have ha:=hl a (by simp)
    rw [e]
    by_cases h:f a > f b
    · rw [if_pos h]
      have ih:=best_first f m l a ha fun n hn => hl n (List.mem_cons_of_mem _ hn)
      refine ⟨fun g => by omega,fun g x r hx => ?_⟩
      by_cases h2:f a = m
      · rw [List.filter_cons_of_pos (by simpa using h2)] at hx
        rw [ih.1 h2]
        exact (List.cons.inj hx).1
      · rw [List.filter_cons_of_neg (by simpa using h2)] at hx
        exact ih.2 (by omega) x r hx
    · rw [if_neg h]
      have ih:=best_first f m l b hb fun n hn => hl n (List.mem_cons_of_mem _ hn)
      refine ⟨ih.1,fun g x r hx => ?_⟩
      rw [List.filter_cons_of_neg (by simp; omega)] at hx
      exact ih.2 g x r hx
theorem best_head {f : Int → Int} {m b : Int} {l : List Int} (hl : ∀ n ∈ l, f n ≤ m) {x : Int} {r : List Int} (hx : l.filter (f · = m) = x :: r) (hb : l.head? = some b) : best f b l = x := by
  cases l with
  | nil => simp at hb
  | cons a l =>
    simp at hb
    subst hb
    have h:=best_first f m (a :: l) a (hl a (by simp)) hl
    by_cases g:f a = m
    · rw [h.1 g]
      rw [List.filter_cons_of_pos (by simpa using g)] at hx
      exact (List.cons.inj hx).1
    · exact h.2 (by have:=hl a (by simp); omega) x r hx
theorem yield_filter {f:Int → Bool} {q:List Int} {p:Int} (hp:f p = true):(yield q p).filter f = yield (q.filter f) p:=by
 unfold yield
 rw [List.filter_append,List.filter_filter,List.filter_filter]
 congr 1
 ·congr 1; funext x; rw [Bool.and_comm]
 ·rw [List.filter_cons_of_pos hp]; rfl
theorem yield_head {p:Int} {r:List Int} (h:(p :: r).Nodup):yield (p :: r) p = r ++ [p]:=by
 unfold yield
 rw [List.filter_cons_of_neg (by simp)]
 congr 1
 refine List.filter_eq_self.2 fun a ha => ?_
 have:=(List.nodup_cons.1 h).1
 simp
 rintro rfl
 exact this ha
theorem yield_ok {ps:List Pr} {q:List Int} {p:Int} (h:QOk ps q) (hp:isReady ps p):QOk ps (yield q p):=by
 refine ⟨fun n hn => ?_,?_,fun i hi hr => ?_⟩
 ·unfold yield at hn
  rcases List.mem_append.1 hn with h' | h'
  ·exact h.1 n (List.mem_filter.1 h').1
  ·rw [List.mem_singleton] at h'; subst h'; exact hp
 ·unfold yield
  rw [List.nodup_append]
  refine ⟨List.Nodup.sublist List.filter_sublist h.2.1,by simp,fun a ha b hb => ?_⟩
  have:=(List.mem_filter.1 ha).2
  rw [List.mem_singleton] at hb
  subst hb
  simpa using this
 ·unfold yield
  by_cases e:((i:Nat):Int) = p
  ·exact List.mem_append.2 (.inr (by simp [e]))
  ·exact List.mem_append.2 (.inl (List.mem_filter.2 ⟨h.2.2 i hi hr,by simpa using e⟩))
end Go.Fv.Pl
namespace Go.Fv.Pl
inductive Chn:List Tm → Prop where
 | nil:Chn []
 | snoc {l:List Tm} {t:Tm}:Chn l → (∀ a,l.getLast? = some a → before a t) → Chn (l ++ [t])
theorem Chn.take {l : List Tm} (h : Chn l) : ∀ i, Chn (l.take i) := by
  induction h with
  | nil => intro i; simp; exact .nil
  | snoc h1 h4 ih =>
    rename_i l t
    intro i
    by_cases hi:i ≤ l.length
    · rw [List.take_append_of_le_length hi]; exact ih i
    · rw [take_all (by simp; omega)]; exact .snoc h1 h4
theorem TsOk.chn {n:Int} {l:List Tm} (h:TsOk n l):Chn l:=by
 induction h with
 | nil => exact .nil
 | snoc h1 h2 h3 h4 ih => exact .snoc ih h4
theorem TsOk_of {n : Int} {l : List Tm} (h1 : Chn l) (h2 : ∀ t ∈ l, right n t) (h3 : (l.map Tm.proc).Nodup) : TsOk n l := by
  induction h1 with
  | nil => exact .nil
  | snoc g1 g4 ih =>
    rename_i l t
    rw [List.map_append,List.nodup_append] at h3
    exact .snoc (ih (fun t ht => h2 t (by simp [ht])) h3.1) (h2 t (by simp)) (fun hm => h3.2.2 _ hm t.proc (by simp) rfl) g4
def cnt (ts:List Tm) (i:Int):Nat:=(ts.map Tm.proc).count i
def RRow (t:Tab) (i:Int) (p:Pr):Prop :=
 p.regs[0]? = some 0 ∧ (0 ≤ p.state ∧ p.state ≤ 3) ∧ (0 ≤ p.prio ∧ p.prio ≤ 255) ∧ (0 ≤ p.wait ∧ p.wait ≤ 4) ∧ (p.wait ≠ 0 ↔ p.state = 2) ∧ 0 ≤ p.obj ∧ (p.wait ≤ 1 → p.obj = 0) ∧
 cnt t.ts i ≤ 1 ∧ (cnt t.ts i = 1 → p.state = 2) ∧ (cnt t.ts i = 0 → p.wait ≠ 1) ∧ t.q.count i = if p.state = 1 then 1 else 0
instance (t:Tab) (i:Int) (p:Pr):Decidable (RRow t i p):=inferInstanceAs (Decidable (_ ∧ _ ∧ _ ∧ _ ∧ _ ∧ _ ∧ (_ → _) ∧ _ ∧ (_ → _) ∧ (_ → _) ∧ _))
structure ROk (t:Tab):Prop where
 few:t.ps.length ≤ 8 ∧ t.q.length ≤ 8 ∧ t.ts.length ≤ 8
 ps:∀ (i:Nat) p,t.ps[i]? = some p → RRow t i p
 q:∀ n ∈ t.q,0 ≤ n ∧ n < t.ps.length
 ts:∀ x ∈ t.ts,right t.ps.length x
 chn:Chn t.ts
theorem nodup_len : ∀ (n : Nat) (l : List Nat), l.Nodup → (∀ x ∈ l, x < n) → l.length ≤ n
  | 0, l, _, h => by
    cases l with
    | nil => simp
    | cons a l => exact absurd (h a (by simp)) (by omega)
  | n + 1, l, hn, h => by
    have ih := nodup_len n (l.erase n) (hn.erase n) fun x hx => by
      have hx':=(List.Nodup.mem_erase_iff hn).1 hx
      have:=h x hx'.2
      have:=hx'.1
      omega
    by_cases hm:n ∈ l
    · rw [List.length_erase_of_mem hm] at ih
      omega
    · rw [List.erase_of_not_mem hm] at ih
      omega
theorem nodup_lenI {n:Nat} {l:List Int} (hn:l.Nodup) (h:∀ x ∈ l,0 ≤ x ∧ x < n):l.length ≤ n:=by
 have:=nodup_len n (l.map Int.toNat) (by
  rw [List.nodup_iff_pairwise_ne,List.pairwise_map]
  refine List.Pairwise.imp_of_mem ?_ (List.nodup_iff_pairwise_ne.1 hn)
  intro a b ha hb hne he
  have:=h a ha
  have:=h b hb
  omega) (fun x hx => by
  obtain ⟨a,ha,rfl⟩:=List.mem_map.1 hx
  have:=h a ha
  omega)
 simpa using this
theorem count_one {l:List Int} (hn:l.Nodup) (i:Int):l.count i = if i ∈ l then 1 else 0:=by
 have:=List.nodup_iff_count.1 hn i
 by_cases h:i ∈ l
 ·have:=List.count_pos_iff.2 h
  rw [if_pos h]; omega
 ·rw [if_neg h,List.count_eq_zero_of_not_mem h]
theorem nodup_of_count {l:List Int} {n:Nat} (h:∀ x ∈ l,0 ≤ x ∧ x < n) (hc:∀ i:Nat,i < n → l.count (i:Int) ≤ 1):l.Nodup:=by
 rw [List.nodup_iff_count]
 intro a
 by_cases ha:a ∈ l
 ·have:=h a ha
  have e:a = (a.toNat:Int):=by omega
  rw [e]
  exact hc _ (by omega)
 ·rw [List.count_eq_zero_of_not_mem ha]; omega
theorem isReady_iff {ps:List Pr} {i:Nat} {p:Pr} (h:ps[i]? = some p):isReady ps (i:Nat) ↔ p.state = 1:=by
 have e:at? ps (i:Nat) = some p:=by unfold at?; rw [if_pos (by omega)]; exact h
 unfold isReady
 rw [e]
 simp
theorem ROk_iff (t:Tab):ROk t ↔ TabOk t:=by
 constructor
 ·intro h
  have nts:(t.ts.map Tm.proc).Nodup:=nodup_of_count (n:=t.ps.length) (fun x hx => by
   obtain ⟨y,hy,rfl⟩:=List.mem_map.1 hx
   have:=h.ts y hy
   exact ⟨this.1,this.2.1⟩) fun i hi => (h.ps i _ (List.getElem?_eq_getElem hi)).2.2.2.2.2.2.2.1
  have nq:t.q.Nodup:=nodup_of_count (n:=t.ps.length) h.q fun i hi => by
   have:=(h.ps i _ (List.getElem?_eq_getElem hi)).2.2.2.2.2.2.2.2.2.2
   split at this <;> omega
  refine ⟨h.few.1,TsOk_of h.chn h.ts nts,fun i p hp => ?_,fun n hn => ?_,nq,fun i hi hr => ?_⟩
  ·obtain ⟨g1,g2,g3,g4,g5,g6,g7,g8,g9,g10,g11⟩:=h.ps i p hp
   refine ⟨⟨g1,g2,g3,g4,g5,g6,?_⟩,fun ht => g9 ?_,fun ht => g10 ?_⟩
   ·by_cases g:p.wait ≤ 1
    ·exact .inl (g7 g)
    ·exact .inr (by omega)
   ·unfold cnt
    rw [count_one nts,if_pos (show ((i:Nat):Int) ∈ t.ts.map Tm.proc from ht)]
   ·unfold cnt
    rw [count_one nts,if_neg (show ¬ ((i:Nat):Int) ∈ t.ts.map Tm.proc from ht)]
  ·have hr:=h.q n hn
   have e:n = (n.toNat:Int):=by omega
   have hp:=List.getElem?_eq_getElem (l:=t.ps) (i:=n.toNat) (by omega)
   rw [e,isReady_iff hp]
   have:=(h.ps _ _ hp).2.2.2.2.2.2.2.2.2.2
   rw [← e,count_one nq,if_pos hn] at this
   by_cases g:t.ps[n.toNat].state = 1
   ·exact g
   ·rw [if_neg g] at this; omega
  ·have hp:=List.getElem?_eq_getElem (l:=t.ps) (i:=i) hi
   rw [isReady_iff hp] at hr
   have:=(h.ps _ _ hp).2.2.2.2.2.2.2.2.2.2
   rw [if_pos hr] at this
   exact List.count_pos_iff.1 (by omega)
 ·intro h
  have nts:=h.ts.nodup
  have lts:t.ts.length ≤ t.ps.length:=by
   have:=nodup_lenI (n:=t.ps.length) nts fun x hx => by
    obtain ⟨y,hy,rfl⟩:=List.mem_map.1 hx
    have:=h.ts.mem y hy
    exact ⟨this.1,this.2.1⟩
   simpa using this
  have lq:t.q.length ≤ t.ps.length:=nodup_lenI h.q.2.1 fun x hx => (h.q.1 x hx).lt
  have:=h.few
  refine ⟨⟨h.few,by omega,by omega⟩,fun i p hp => ?_,fun n hn => (h.q.1 n hn).lt,h.ts.mem,h.ts.chn⟩
  obtain ⟨⟨g1,g2,g3,g4,g5,g6,g7⟩,g8,g9⟩:=h.ps i p hp
  have hc:=count_one nts (i:Nat)
  refine ⟨g1,g2,g3,g4,g5,g6,fun g => ?_,?_,fun g => g8 ?_,fun g => g9 ?_,?_⟩
  ·rcases g7 with g7 | g7
   ·exact g7
   ·have:=g4.1; omega
  ·unfold cnt; rw [hc]; split <;> omega
  ·unfold cnt at g; rw [hc] at g
   by_cases ht:((i:Nat):Int) ∈ t.ts.map Tm.proc
   ·exact ht
   ·rw [if_neg ht] at g; omega
  ·unfold cnt at g; rw [hc] at g
   intro ht
   rw [if_pos (show ((i:Nat):Int) ∈ t.ts.map Tm.proc from ht)] at g; omega
  ·rw [count_one h.q.2.1]
   obtain ⟨hi,_⟩:=List.getElem?_eq_some_iff.1 hp
   have hr:=isReady_iff (ps:=t.ps) hp
   by_cases hm:((i:Nat):Int) ∈ t.q
   ·rw [if_pos hm,if_pos (hr.1 (h.q.1 _ hm))]
   ·rw [if_neg hm,if_neg fun e => hm (h.q.2.2 i hi (hr.2 e))]
theorem TabOk_iff (t:Tab):TabOk t ↔ t.ps.length ≤ 8 ∧ TsOk t.ps.length t.ts ∧ (∀ i:Nat,(h:i < t.ps.length) → RowOk t.ts i t.ps[i]) ∧ QOk t.ps t.q :=
 ⟨fun h => ⟨h.few,h.ts,fun i hi => h.ps i _ (List.getElem?_eq_getElem hi),h.q⟩,fun ⟨a,b,c,d⟩ => ⟨a,b,fun i p hp => by
  obtain ⟨hi,e⟩:=List.getElem?_eq_some_iff.1 hp
  rw [← e]
  exact c i hi,d⟩⟩
instance (t:Tab):Decidable (TabOk t):=decidable_of_iff _ (TabOk_iff t).symm
end Go.Fv.Pl
namespace Go.Fv.Pl
theorem rot {T:List Int} (hn:T.Nodup) {k:Nat} (hk:k < T.length):yield (T.drop k ++ T.take k) T[k] = T.drop (k + 1) ++ T.take (k + 1):=by
 have e:T.drop k ++ T.take k = T[k] :: (T.drop (k + 1) ++ T.take k):=by
  rw [List.drop_eq_getElem_cons hk,List.cons_append]
 have hp:(T.drop k ++ T.take k).Nodup:=by
  have:(T.drop k ++ T.take k).Perm T:=List.perm_append_comm.trans (by rw [List.take_append_drop])
  exact this.nodup_iff.2 hn
 rw [e] at hp ⊢
 rw [yield_head hp,List.append_assoc,take_snoc hk]
def Tab.yield (t:Tab) (p:Int):Tab:={ t with q:=Pl.yield t.q p }
theorem TabOk.yield {t:Tab} (h:TabOk t) {p:Int} (hp:isReady t.ps p):TabOk (t.yield p):=⟨h.few,h.ts,h.ps,yield_ok h.q hp⟩
structure Turn (t:Tab) (m:Int) (T:List Int) (k:Nat) (u:Tab):Prop where
 ps:u.ps = t.ps
 ok:TabOk u
 q:u.q.filter (fun n => prio t.ps n = m) = T.drop k ++ T.take k
 le:∀ n ∈ u.q,prio t.ps n ≤ m
theorem Turn.pick {t u:Tab} {m:Int} {T:List Int} {k:Nat} (h:Turn t m T k u) (hk:k < T.length) {b:Int} (hb:u.q.head? = some b):best (prio u.ps) b u.q = T[k]:=by
 rw [h.ps]
 refine best_head (m:=m) h.le (r:=T.drop (k + 1) ++ T.take k) ?_ hb
 rw [h.q,List.drop_eq_getElem_cons hk,List.cons_append]
theorem Turn.mem {t u:Tab} {m:Int} {T:List Int} {k:Nat} (h:Turn t m T k u) (hk:k < T.length):T[k] ∈ u.q ∧ prio t.ps T[k] = m:=by
 have:T[k] ∈ u.q.filter (fun n => prio t.ps n = m):=by
  rw [h.q,List.drop_eq_getElem_cons hk]; exact List.mem_append_left _ (List.mem_cons_self ..)
 simpa using List.mem_filter.1 this
theorem Turn.next {t u:Tab} {m:Int} {T:List Int} {k:Nat} (h:Turn t m T k u) (hn:T.Nodup) (hk:k < T.length):Turn t m T (k + 1) (u.yield T[k]):=by
 obtain ⟨h1,h2⟩:=h.mem hk
 refine ⟨h.ps,h.ok.yield (h.ok.q.1 _ h1),?_,fun n hn => ?_⟩
 ·show (Pl.yield u.q T[k]).filter _ = _
  rw [yield_filter (by simpa using h2),h.q,rot hn hk]
 ·unfold Tab.yield Pl.yield at hn
  rcases List.mem_append.1 hn with g | g
  ·exact h.le n (List.mem_filter.1 g).1
  ·rw [List.mem_singleton] at g; subst g; omega
theorem Turn.wrap {t u:Tab} {m:Int} {T:List Int} (h:Turn t m T T.length u):Turn t m T 0 u:=⟨h.ps,h.ok,by rw [h.q]; simp,h.le⟩
end Go.Fv.Pl
namespace Go.Fv.Pl
theorem at?_some {ps:List Pr} {n:Int} {p:Pr}:at? ps n = some p ↔ 0 ≤ n ∧ ps[n.toNat]? = some p:=by
 unfold at?
 by_cases h:0 ≤ n
 ·simp [h]
 ·simp [h]
theorem at?_nat {ps:List Pr} {i:Nat}:at? ps (i:Nat) = ps[i]?:=by simp [at?]
end Go.Fv.Pl
namespace Go.Fv.Tr
open Go Go.Fv Go.Fv.Pl Go.Proofs
abbrev i64 (n:Int):V:=.int .i64 n
def tmRow (t:Tm):List V:=[i64 t.proc,i64 t.due]
theorem tm_len (t:Tm):(tmRow t).length = 2:=rfl
theorem tm_take (t:Tm):(tmRow t).take 2 = tmRow t:=rfl
def big:Nat:=9223372036854775807
theorem addN {i N:Nat} (h:i < N) (hN:N ≤ big):arithV .add (.int .i64 (i:Int)) (.int .i64 1) = some (.int .i64 ((i + 1:Nat):Int)):=by
 unfold big at hN
 exact arith_add (by omega) (by omega)
theorem ltT {i N:Nat} (h:i < N):decide ((i:Int) < (N:Int)) = true:=by simpa using h
theorem ltF {i N:Nat} (h:¬ i < N):decide ((i:Int) < (N:Int)) = false:=by simpa using h
theorem aidx_in {l i o n:Nat} {p:Int} (h0:0 ≤ p) (h:p < n):aidxV n 1 (.ptr l i o) (.int .i64 p) = some (.ptr l i (o + p.toNat * 1)):=by
 simp [aidxV,h0,h,padd]
theorem cI {k:IntKind} {n:Int}:(V.int k n).closedV = true:=rfl
theorem nbeq_e {a b:Bool}:((!a) = b) ↔ (a = true ↔ b = false):=by cases a <;> cases b <;> simp
theorem boolI {b:Bool} {Q:Prop} [Decidable Q] (h:b = true ↔ Q):V.bool b = V.bool (decide Q):=by
 cases b <;> simp at h <;> simp [h]
theorem boolT {Q:Prop} [Decidable Q] (h:Q):V.bool true = V.bool (decide Q):=by simp [h]
theorem boolF {Q:Prop} [Decidable Q] (h:¬ Q):V.bool false = V.bool (decide Q):=by simp [h]
variable {G:GV}
def errV (g:Nat):V:=.iface 315 (.ext g)
theorem eq_err {c:Bool} {g:Nat}:eqV .iface c (errV g) .nili = some false:=rfl
structure Errs (G:GV):Prop where
 state:G 2 = some [errV 2]
 none:G 16 = some [errV 16]
 arg:G 0 = some [errV 0]
theorem glob_at {g:Nat} {row:List V} (h:G g = some row):glob (cfg G) g = .iptr row 0:=by
 simp only [glob,cfg,h]
def prRow (p:Pr):List V:=p.regs.map (fun n => .int .u32 n) ++ [.int .u32 p.pc,.int .i64 p.state,.int .i64 p.prio,.int .i64 p.wait,.int .i64 p.obj]
def Wp (p:Pr):Prop:=p.regs.length = 16
theorem pr_len {p:Pr} (h:Wp p):(prRow p).length = 21:=by simp [prRow,show p.regs.length = 16 from h]
theorem pr_take {p:Pr} (h:Wp p):(prRow p).take 21 = prRow p:=List.take_of_length_le (by rw [pr_len h]; omega)
theorem pr_at {p:Pr} (h:Wp p) (k:Nat):(prRow p)[16 + k]? = ([.int .u32 p.pc,.int .i64 p.state,.int .i64 p.prio,.int .i64 p.wait,.int .i64 p.obj]:List V)[k]?:=by
 rw [prRow,List.getElem?_append_right (by simp [show p.regs.length = 16 from h])]
 simp [show p.regs.length = 16 from h]
theorem pr_state {p:Pr} (h:Wp p):(prRow p)[17]? = some (.int .i64 p.state):=pr_at h 1
theorem pr_prio {p:Pr} (h:Wp p):(prRow p)[18]? = some (.int .i64 p.prio):=pr_at h 2
theorem pr_wait {p:Pr} (h:Wp p):(prRow p)[19]? = some (.int .i64 p.wait):=pr_at h 3
theorem pr_obj {p:Pr} (h:Wp p):(prRow p)[20]? = some (.int .i64 p.obj):=pr_at h 4
def reg0 (p:Pr):Int:=(p.regs[0]?).getD 1
theorem pr_reg0 {p:Pr} (h:Wp p):(prRow p)[0]? = some (.int .u32 (reg0 p)):=by
 have h0:0 < p.regs.length:=by rw [show p.regs.length = 16 from h]; omega
 rw [prRow,List.getElem?_append_left (by simpa using h0)]
 simp [reg0,h0]
theorem aidx0 {m l i o:Nat}:aidxV (m + 1) 1 (.ptr l i o) (.int .i64 0) = some (.ptr l i o):=by
 have:=aidx_in (l:=l) (i:=i) (o:=o) (n:=m + 1) (p:=0) (by omega) (by omega)
 simpa using this
def intRow (n:Int):List V:=[.int .i64 n]
structure IsTab (x y z:V) (t:Tab):Prop where
 p:Sls x 21 (t.ps.map prRow)
 q:Sls y 1 (t.q.map intRow)
 s:Sls z 2 (t.ts.map tmRow)
 wp:∀ p ∈ t.ps,Wp p
 big:t.ps.length ≤ big ∧ t.q.length ≤ big ∧ t.ts.length ≤ big
theorem IsTab.closed {x y z:V} {t:Tab} (h:IsTab x y z t):(V.agg [x,y,z]).closedV = true:=by
 simp [V.closedV,h.p.closed,h.q.closed,h.s.closed]
theorem IsTab.at {x y z:V} {t:Tab} (h:IsTab x y z t) {n:Int} {p:Pr} (hp:at? t.ps n = some p):idxV 21 x (.int .i64 n) = some (.iptr (prRow p) 0) ∧ Wp p:=by
 have h0:=(at?_lt hp).1
 have h1:=(at?_lt hp).2
 unfold at? at hp
 rw [if_pos h0] at hp
 obtain ⟨hi,e⟩:=List.getElem?_eq_some_iff.1 hp
 have:=h.p.idxI (k:=.i64) h0 (by simp; omega)
 simp only [List.getElem_map,e] at this
 exact ⟨this,e ▸ h.wp _ (List.getElem_mem _)⟩
def QPre (ps:List Pr) (q:List Int):Prop:=(∀ n ∈ q,isReady ps n) ∧ q.Nodup
theorem QPre.take {ps:List Pr} {q:List Int} (h:QPre ps q) (i:Nat):QPre ps (q.take i):=⟨fun n hn => h.1 n (List.mem_of_mem_take hn),List.Nodup.sublist (List.take_sublist _ _) h.2⟩
end Go.Fv.Tr
namespace Go.Fv.Tr
open Go Go.Fv Go.Proofs
def laidL:List Nat:=[0,1,2,6,7,9,11,13,16]
def GX:Nat → Option (List V):=fun g => if laidL.contains g = true then some [errV g] else none
end Go.Fv.Tr
