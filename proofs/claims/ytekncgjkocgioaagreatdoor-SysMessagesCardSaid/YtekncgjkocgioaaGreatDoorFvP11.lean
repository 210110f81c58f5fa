/-
  What a run ends in, as a plain statement. By an AI agent; no person has read it.
-/
import Derived.Test.YtekncgjkocgioaaGreatDoorFvP01
import Derived.Test.YtekncgjkocgioaaGreatDoorFvP10
import Derived.IntWalk
set_option linter.unusedVariables false
set_option linter.unusedSimpArgs false
set_option linter.unusedSectionVars false
/-! What a run ends in, as a plain statement. -/
namespace Go.Fv
open Go
section
variable {α β:Type} {H:Heap}
def Run (m:M α) (H:Heap) (Q:α → Heap → Prop):Prop:=∃ r H',m H = some (r,H') ∧ Q r H'
theorem Run.bind {m:M α} {f:α → M β} {Q:β → Heap → Prop}:Run (M.bind m f) H Q ↔ Run m H fun a H' => Run (f a) H' Q:=by
 constructor
 ·rintro ⟨r,H',h,q⟩
  simp only [M.bind] at h
  cases hm:m H with
  | none => rw [hm] at h; cases h
  | some x => rw [hm] at h; exact ⟨x.1,x.2,hm,r,H',h,q⟩
 ·rintro ⟨a,H1,h,r,H',h',q⟩
  exact ⟨r,H',by simp only [M.bind,h,Option.bind_some]; exact h',q⟩
theorem Run.ret {a:α} {Q:α → Heap → Prop}:Run (M.ret a) H Q ↔ Q a H :=
 ⟨fun ⟨_,_,h,q⟩ => by cases h; exact q,fun q => ⟨a,H,rfl,q⟩⟩
theorem Run.lift {a:α} {Q:α → Heap → Prop}:Run (M.lift (some a)) H Q ↔ Q a H :=
 ⟨fun ⟨_,_,h,q⟩ => by cases h; exact q,fun q => ⟨a,H,rfl,q⟩⟩
theorem Run.fail {Q:α → Heap → Prop}:Run (M.fail:M α) H Q ↔ False:=⟨fun ⟨_,_,h,_⟩ => (by cases h),fun h => h.elim⟩
theorem Run.cond {b:Bool} {x y:M α} {Q:α → Heap → Prop}:Run (condV (.bool b) x y) H Q ↔ (b = true → Run x H Q) ∧ (b = false → Run y H Q):=by
 cases b
 ·exact ⟨fun h => ⟨fun e => (by cases e),fun _ => h⟩,fun h => h.2 rfl⟩
 ·exact ⟨fun h => ⟨fun _ => h,fun e => (by cases e)⟩,fun h => h.1 rfl⟩
theorem Run.mono {m:M α} {Q Q':α → Heap → Prop} (h:Run m H Q) (hq:∀ a H',Q a H' → Q' a H'):Run m H Q':=by
 obtain ⟨r,H',e,q⟩:=h
 exact ⟨r,H',e,hq _ _ q⟩
theorem Run.of {m:M α} {r:α} {H':Heap} {Q:α → Heap → Prop} (h:m H = some (r,H')) (q:Q r H'):Run m H Q:=⟨r,H',h,q⟩
theorem Run.eq {m:M α} {r:α} {H':Heap} {Q:α → Heap → Prop} (h:m H = some (r,H')):Run m H Q ↔ Q r H' :=
 ⟨fun ⟨_,_,h',q⟩ => by rw [h] at h'; cases h'; exact q,fun q => ⟨r,H',h,q⟩⟩
theorem Run.getN {Q:Nat → Heap → Prop}:Run Fv.getN H Q ↔ Q H.next H:=Run.eq rfl
theorem Run.guardM {c:Bool} {m:M α} {Q:α → Heap → Prop}:Run (Fv.guardM c m) H Q ↔ c = true ∧ Run m H Q:=by
 cases c
 ·exact ⟨fun ⟨_,_,h,_⟩ => (by cases h),fun h => (by cases h.1)⟩
 ·exact ⟨fun h => ⟨rfl,h⟩,fun h => h.2⟩
def Heap.q (H:Heap) (v:Nat → Bool):Heap:=⟨fun l => if l < H.next then H.blk l else if v l = true then H.blk l else none,H.next,H.floor⟩
theorem Run.qret {v:Nat → Bool} {r:V} {Q:V → Heap → Prop}:Run (qrun v (M.ret r)) H Q ↔ Q r (H.q v):=Run.eq rfl
theorem Heap.q_blk (v:Nat → Bool) (l:Nat):(H.q v).blk l = if l < H.next then H.blk l else if v l = true then H.blk l else none:=rfl
theorem Heap.q_next (v:Nat → Bool):(H.q v).next = H.next:=rfl
theorem Heap.q_floor (v:Nat → Bool):(H.q v).floor = H.floor:=rfl
theorem pick_and {b c:Bool}:pickV (.bool b) (.bool c) (.bool false) = some (.bool (b && c)):=by cases b <;> rfl
theorem pick_or {b c:Bool}:pickV (.bool b) (.bool true) (.bool c) = some (.bool (b || c)):=by cases b <;> rfl
theorem pick_t {x y:V}:pickV (.bool true) x y = some x:=rfl
theorem pick_f {x y:V}:pickV (.bool false) x y = some y:=rfl
theorem arith_lss {k:IntKind} {a b:Int}:arithV .lss (.int k a) (.int k b) = some (.bool (decide (a < b))):=by simp [arithV]
theorem arith_leq {k:IntKind} {a b:Int}:arithV .leq (.int k a) (.int k b) = some (.bool (decide (a ≤ b))):=by simp [arithV]
theorem arith_gtr {k:IntKind} {a b:Int}:arithV .gtr (.int k a) (.int k b) = some (.bool (decide (b < a))):=by simp [arithV]
theorem arith_geq {k:IntKind} {a b:Int}:arithV .geq (.int k a) (.int k b) = some (.bool (decide (b ≤ a))):=by simp [arithV]
theorem arith_add {a b:Int} (h:-9223372036854775808 ≤ a + b) (h':a + b ≤ 9223372036854775807):arithV .add (.int .i64 a) (.int .i64 b) = some (.int .i64 (a + b)):=by
 have:IntKind.i64.wrap (a + b) = a + b:=Go.IntWalk.i64_in _ ⟨h,h'⟩
 simp [arithV,this]
theorem arith_sub {a b:Int} (h:-9223372036854775808 ≤ a - b) (h':a - b ≤ 9223372036854775807):arithV .sub (.int .i64 a) (.int .i64 b) = some (.int .i64 (a - b)):=by
 have:IntKind.i64.wrap (a - b) = a - b:=Go.IntWalk.i64_in _ ⟨h,h'⟩
 simp [arithV,this]
theorem eq_int {c:Bool} {k:IntKind} {a b:Int}:eqV (.sc .int) c (.int k a) (.int k b) = some (a == b):=by simp [eqV,eqC]
theorem eq_bool {c:Bool} {a b:Bool}:eqV (.sc .bool) c (.bool a) (.bool b) = some (a == b):=rfl
theorem eq_str {c:Bool} {a b:ByteArray}:eqV (.sc .str) c (.str a) (.str b) = some (a.toList == b.toList):=rfl
theorem eq_nili:eqV .iface true .nili .nili = some true:=rfl
theorem eq_ifnil {c:Bool} {t:TypeId} {v:V}:eqV .iface c (.iface t v) .nili = some false:=rfl
theorem eq_nilif {c:Bool} {t:TypeId} {v:V}:eqV .iface c .nili (.iface t v) = some false:=rfl
theorem un_not {b:Bool}:unV .not (.bool b) = some (.bool !b):=rfl
theorem cells_agg {l:List V}:(V.agg l).cells? = some l:=rfl
theorem cells_int {k:IntKind} {n:Int}:(V.int k n).cells? = some [.int k n]:=rfl
theorem cells_bool {b:Bool}:(V.bool b).cells? = some [.bool b]:=rfl
theorem cells_str {s:ByteArray}:(V.str s).cells? = some [.str s]:=rfl
theorem cells_nils:V.nils.cells? = some [.nils]:=rfl
theorem cells_emp:V.emp.cells? = some [.emp]:=rfl
theorem cells_imm {sz:Nat} {rows:List (List V)}:(V.imm sz rows).cells? = some [.imm sz rows]:=rfl
theorem cells_ref {l sz s n c:Nat} {ex:Bool}:(V.ref l sz s n c ex).cells? = some [.ref l sz s n c ex]:=rfl
theorem cells_nili:V.nili.cells? = some [.nili]:=rfl
theorem cells_iface {t:TypeId} {v:V}:(V.iface t v).cells? = some [.iface t v]:=rfl
theorem cells_ptr {l i o:Nat}:(V.ptr l i o).cells? = some [.ptr l i o]:=rfl
theorem cells_nilp:V.nilp.cells? = some [.nilp]:=rfl
theorem cells_fn {f:FuncId} {c:List V}:(V.fn f c).cells? = some [.fn f c]:=rfl
theorem padd_ptr {n l i o:Nat}:padd n (.ptr l i o) = some (.ptr l i (o + n)):=rfl
theorem padd_iptr {n o:Nat} {r:List V}:padd n (.iptr r o) = some (.iptr r (o + n)):=rfl
theorem condT {x y:M α}:condV (.bool true) x y = x:=rfl
theorem condF {x y:M α}:condV (.bool false) x y = y:=rfl
theorem condN {b:Bool} {x y:M α}:condV (.bool !b) x y = condV (.bool b) y x:=by cases b <;> rfl
theorem guardTT {m:M V}:guardV (.bool true) true m = m:=rfl
theorem guardFT {m:M V}:guardV (.bool false) true m = M.ret (.tuple []):=rfl
theorem guardTF {m:M V}:guardV (.bool true) false m = M.ret (.tuple []):=rfl
theorem guardS {l:List V} {w:Bool} {m:M V}:guardV (.tuple l) w m = M.ret (.tuple []):=rfl
theorem guardFF {m:M V}:guardV (.bool false) false m = m:=rfl
theorem guardNT {b:Bool} {m:M V}:guardV (.bool !b) true m = guardV (.bool b) false m:=by cases b <;> rfl
theorem guardNF {b:Bool} {m:M V}:guardV (.bool !b) false m = guardV (.bool b) true m:=by cases b <;> rfl
theorem Run.gC {b:Bool} {x y:M α} {Q:α → Heap → Prop} (h1:b = true → Run (condV (.bool true) x y) H Q) (h2:b = false → Run (condV (.bool false) x y) H Q):Run (condV (.bool b) x y) H Q:=by
 cases b
 ·exact h2 rfl
 ·exact h1 rfl
theorem Run.gG {b w:Bool} {m:M V} {Q:V → Heap → Prop} (h1:b = true → Run (guardV (.bool true) w m) H Q) (h2:b = false → Run (guardV (.bool false) w m) H Q):Run (guardV (.bool b) w m) H Q:=by
 cases b
 ·exact h2 rfl
 ·exact h1 rfl
theorem Run.gQ {v:Nat → Bool} {b w:Bool} {m:M V} {Q:V → Heap → Prop} (h1:b = true → Run (qrun v (guardV (.bool true) w m)) H Q) (h2:b = false → Run (qrun v (guardV (.bool false) w m)) H Q):Run (qrun v (guardV (.bool b) w m)) H Q:=by
 cases b
 ·exact h2 rfl
 ·exact h1 rfl
theorem Heap.add_blk (b:Blk) (l:Nat):(H.add b).blk l = if l = H.next then some b else H.blk l:=rfl
theorem Heap.add_new (b:Blk):(H.add b).blk H.next = some b:=if_pos rfl
theorem Heap.add_old {b:Blk} {l:Nat} (h:l < H.next):(H.add b).blk l = H.blk l:=if_neg (by omega)
theorem Heap.add_next (b:Blk):(H.add b).next = H.next + 1:=rfl
theorem Heap.add_floor (b:Blk):(H.add b).floor = H.floor:=rfl
theorem Heap.set_blk (b:Blk) (l x:Nat):(H.set l b).blk x = if x = l then some b else H.blk x:=rfl
theorem Heap.set_next (b:Blk) (l:Nat):(H.set l b).next = H.next:=rfl
theorem Heap.set_floor (b:Blk) (l:Nat):(H.set l b).floor = H.floor:=rfl
theorem Heap.kill_blk (l x:Nat):(H.kill l).blk x = if x = l then none else H.blk x:=rfl
theorem Heap.empty_next:Heap.empty.next = 0:=rfl
theorem Heap.empty_floor:Heap.empty.floor = 0:=rfl
theorem Run.newA {l:List V} {Q:V → Heap → Prop}:Run (newV (.agg l)) H Q ↔ Q (.ptr H.next 0 0) (H.add ⟨l.length,[l]⟩):=Run.eq rfl
theorem Run.load1i {row:List V} {o:Nat} {Q:V → Heap → Prop}:Run (load1 (.iptr row o)) H Q ↔ ∃ v,row[o]? = some v ∧ Q v H:=by
 cases h:row[o]? with
 | none => exact ⟨fun ⟨_,_,e,_⟩ => by simp [load1,placeV,h] at e,fun ⟨_,e,_⟩ => by cases e⟩
 | some v => exact (Run.eq (by simp [load1,placeV,h])).trans ⟨fun q => ⟨v,rfl,q⟩,fun ⟨_,e,q⟩ => by cases e; exact q⟩
theorem Run.load1p {l i o : Nat} {Q : V → Heap → Prop} : Run (load1 (.ptr l i o)) H Q ↔ ∃ b, H.blk l = some b ∧ ∃ row, b.rows[i]? = some row ∧ ∃ v, row[o]? = some v ∧ Q v H := by
  constructor
  · rintro ⟨r, H', e, q⟩
    simp only [load1,placeV] at e
    cases hb:H.blk l with
    | none => rw [hb] at e; cases e
    | some b =>
      simp only [hb,Option.bind_some] at e
      cases hr:b.rows[i]? with
      | none => rw [hr] at e; cases e
      | some row =>
        simp only [hr,Option.bind_some] at e
        cases hv:row[o]? with
        | none => rw [hv] at e; cases e
        | some v => rw [hv] at e; cases e; exact ⟨b,rfl,row,hr,_,hv,q⟩
  · rintro ⟨b,h1,row,h2,v,h3,q⟩
    exact ⟨v,H,by simp [load1,placeV,h1,h2,h3],q⟩
theorem Run.loadNi {n:Nat} {row:List V} {o:Nat} {Q:V → Heap → Prop}:Run (loadN n (.iptr row o)) H Q ↔ o + n ≤ row.length ∧ Q (.agg ((row.drop o).take n)) H:=by
 by_cases h:o + n ≤ row.length
 ·exact (Run.eq (by simp [loadN,placeV,h])).trans ⟨fun q => ⟨h,q⟩,fun q => q.2⟩
 ·exact ⟨fun ⟨_,_,e,_⟩ => by simp [loadN,placeV,h] at e,fun q => (h q.1).elim⟩
theorem Run.loadNp {n l i o : Nat} {Q : V → Heap → Prop} : Run (loadN n (.ptr l i o)) H Q ↔ ∃ b, H.blk l = some b ∧ ∃ row, b.rows[i]? = some row ∧ o + n ≤ row.length ∧ Q (.agg ((row.drop o).take n)) H := by
  constructor
  · rintro ⟨r, H', e, q⟩
    simp only [loadN,placeV] at e
    cases hb:H.blk l with
    | none => rw [hb] at e; cases e
    | some b =>
      simp only [hb,Option.bind_some] at e
      cases hr:b.rows[i]? with
      | none => rw [hr] at e; cases e
      | some row =>
        simp only [hr,Option.bind_some] at e
        by_cases hl:o + n ≤ row.length
        · rw [if_pos hl] at e; cases e; exact ⟨b,rfl,row,hr,hl,q⟩
        · rw [if_neg hl] at e; cases e
  · rintro ⟨b,h1,row,h2,h3,q⟩
    exact ⟨_,H,by simp [loadN,placeV,h1,h2,h3],q⟩
theorem Run.storeN {n l i o : Nat} {v : V} {Q : V → Heap → Prop} : Run (storeN n (.ptr l i o) v) H Q ↔ H.floor ≤ l ∧ ∃ cs, v.cells? = some cs ∧ cs.length = n ∧ ∃ b, H.blk l = some b ∧ ∃ row, b.rows[i]? = some row ∧ o + n ≤ row.length ∧
    Q .undef (H.set l ⟨b.sz,b.rows.set i (row.take o ++ cs ++ row.drop (o + n))⟩):=by
  constructor
  · rintro ⟨r, H', e, q⟩
    simp only [Fv.storeN] at e
    by_cases hf:H.floor ≤ l
    · rw [if_pos hf] at e
      refine ⟨hf,?_⟩
      cases hc:v.cells? with
      | none => rw [hc] at e; cases e
      | some cs =>
        simp only [hc,Option.bind_some] at e
        by_cases hn:cs.length = n
        · rw [if_pos hn] at e
          cases hb:H.blk l with
          | none => rw [hb] at e; cases e
          | some b =>
            simp only [hb,Option.bind_some] at e
            cases hr:b.rows[i]? with
            | none => rw [hr] at e; cases e
            | some row =>
              simp only [hr,Option.bind_some,putRow] at e
              by_cases hl:o + cs.length ≤ row.length
              · rw [if_pos hl] at e
                simp only [Option.bind_some] at e
                cases e
                subst hn
                exact ⟨cs,rfl,rfl,b,rfl,row,hr,hl,q⟩
              · rw [if_neg hl] at e; cases e
        · rw [if_neg hn] at e; cases e
    · rw [if_neg hf] at e; cases e
  · rintro ⟨hf,cs,h1,h2,b,h3,row,h4,h5,q⟩
    subst h2
    exact ⟨.undef,_,by simp only [Fv.storeN,if_pos hf,h1,Option.bind_some,if_true,h3,h4,putRow,if_pos h5],q⟩
theorem Run.newI {k:IntKind} {n:Int} {Q:V → Heap → Prop}:Run (newV (.int k n)) H Q ↔ Q (.ptr H.next 0 0) (H.add ⟨1,[[.int k n]]⟩):=Run.eq rfl
theorem Run.newB {b:Bool} {Q:V → Heap → Prop}:Run (newV (.bool b)) H Q ↔ Q (.ptr H.next 0 0) (H.add ⟨1,[[.bool b]]⟩):=Run.eq rfl
theorem nil_ptr {l i o:Nat}:nilCheckV (.ptr l i o) = some (.ptr l i o):=rfl
def Sls (x:V) (sz:Nat) (rows:List (List V)):Prop:=x = .imm sz rows ∨ rows = [] ∧ (x = .nils ∨ x = .emp)
variable {x:V} {sz:Nat} {rows:List (List V)}
theorem Sls.imm (sz:Nat) (rows:List (List V)):Sls (.imm sz rows) sz rows:=.inl rfl
theorem Sls.nils (sz:Nat):Sls .nils sz []:=.inr ⟨rfl,.inl rfl⟩
theorem Sls.emp (sz:Nat):Sls .emp sz []:=.inr ⟨rfl,.inr rfl⟩
theorem Sls.len (h:Sls x sz rows):lenV x = some (.int .i64 (rows.length:Int)):=by
 rcases h with rfl | ⟨rfl,rfl | rfl⟩ <;> rfl
theorem Sls.idx (h:Sls x sz rows) {k:IntKind} {i:Nat} (hi:i < rows.length):idxV sz x (.int k (i:Int)) = some (.iptr rows[i] 0):=by
 rcases h with rfl | ⟨rfl,_⟩
 ·simp [idxV,hi]
 ·simp at hi
theorem Sls.idxI (h:Sls x sz rows) {k:IntKind} {i:Int} (h0:0 ≤ i) (hi:i < rows.length):idxV sz x (.int k i) = some (.iptr (rows[i.toNat]'(by omega)) 0):=by
 have e:i = (i.toNat:Int):=by omega
 conv => lhs; rw [e]
 exact h.idx (by omega)
theorem Sls.items (h:Sls x sz rows) (H:Heap):itemsV sz x H = some rows:=by
 rcases h with rfl | ⟨rfl,rfl | rfl⟩ <;> simp [itemsV]
theorem Sls.closed (h:Sls x sz rows):x.closed = true:=by
 rcases h with rfl | ⟨rfl,rfl | rfl⟩ <;> rfl
theorem Sls.closedV (h:Sls x sz rows):x.closedV = true:=by
 rcases h with rfl | ⟨rfl,rfl | rfl⟩ <;> rfl
theorem Sls.cells (h:Sls x sz rows):x.cells? = some [x]:=by
 rcases h with rfl | ⟨rfl,rfl | rfl⟩ <;> rfl
theorem Run.out {m:M R} {Q:V → Heap → Prop}:Run (outV m) H Q ↔ Run m H fun r H' => Q (r.2.getD 0 .undef) H':=by
 unfold outV
 rw [Run.bind]
 exact ⟨fun h => h.mono fun _ _ h => Run.ret.1 h,fun h => h.mono fun _ _ h => Run.ret.2 h⟩
def V.closedT:V → Bool
 | .tuple l => l.all V.closedV
 | v => v.closedV
theorem thawV_closedT {v : V} (h : v.closedT = true) (H : Heap) : thawV true H v = some v := by
  cases v with
  | tuple l =>
    have : l.mapM (thaw2 true H) = some l := by
      have h':l.all V.closedV = true:=h
      clear h
      induction l with
      | nil => rfl
      | cons a l ih =>
        simp only [List.all_cons,Bool.and_eq_true] at h'
        have e : thaw2 true H a = some a := by
          have:=thawV_closed h'.1 H
          cases a with
          | tuple _ => simp [V.closedV,V.closed,V.flat] at h'
          | _ => exact this
        rw [List.mapM_cons,e,ih h'.2]
        rfl
    simp [thawV,this]
  | _ => exact thawV_closed (by simpa only [V.closedT] using h) H
theorem callV_thaw {C:Cfg} {call:FuncId → List V → M V} {f:FuncId} {args bs:List V} {r:V} {h:Heap} (hk:C.kind f = .pure) (ha:args.mapM (thawV true h) = some bs)
  (hr:Run (call f bs) Heap.empty fun v H' => thawV (args.all V.closedV) H' v = some r):callV C call f args h = some (r,h):=by
 obtain ⟨v,H',e,q⟩:=hr
 simp only [callV,hk,callP,ha,Option.bind_some,e]
 rw [q]
 rfl
theorem callV_pure {C:Cfg} {call:FuncId → List V → M V} {f:FuncId} {args:List V} {r:V} (hk:C.kind f = .pure) (ha:args.all V.closedV = true)
  (hr:Run (call f args) Heap.empty fun v H' => thawV true H' v = some r):callV C call f args = M.ret r:=by
 funext h
 exact callV_thaw hk (mapM_closedV ha h) (by rw [ha]; exact hr)
theorem callV_pure0 {C:Cfg} {call:FuncId → List V → M V} {f:FuncId} {args:List V} {r:V} (hk:C.kind f = .pure) (ha:args.all V.closedV = true) (hc:r.closedT = true)
  (hr:Run (call f args) Heap.empty fun v _ => v = r):callV C call f args = M.ret r :=
 callV_pure hk ha (hr.mono fun v H' e => by rw [e]; exact thawV_closedT hc H')
theorem callV_pureE {C:Cfg} {call:FuncId → List V → M V} {f:FuncId} {args:List V} {P:V → Prop} (hk:C.kind f = .pure) (ha:args.all V.closedV = true)
  (hr:Run (call f args) Heap.empty fun v H' => ∃ r,thawV true H' v = some r ∧ P r):∃ r,callV C call f args = M.ret r ∧ P r:=by
 obtain ⟨v,H',e,r,q,p⟩:=hr
 exact ⟨r,callV_pure hk ha ⟨v,H',e,q⟩,p⟩
theorem callV_inl {C:Cfg} {call:FuncId → List V → M V} {f:FuncId} {args:List V} (hk:C.kind f = .inl):callV C call f args = call f args:=by
 simp only [callV,hk]
theorem callV_own {C:Cfg} {call:FuncId → List V → M V} {f:FuncId} {args bs:List V} {h:Heap} {Q:V → Heap → Prop} (hk:C.kind f = .own) (ha:args.mapM (thawV true h) = some bs)
  (hr:Run (call f bs) Heap.empty fun v H' => ∃ g,giveV H' v = some g ∧ Run (takeV g) h Q):Run (callV C call f args) h Q:=by
 obtain ⟨v,H',e,g,q,r⟩:=hr
 obtain ⟨a,H2,r1,r2⟩:=r
 exact ⟨a,H2,by simp only [callV,hk,callP,ha,Option.bind_some,e,if_true,q,r1],r2⟩
def V.flat2:V → Bool
 | .agg l => l.all V.flat
 | v => v.flat
def V.flatT:V → Bool
 | .tuple l => l.all V.flat2
 | v => v.flat2
theorem thawD_ref {d : Nat} {ok : Bool} {H : Heap} {l z s n c : Nat} {ex : Bool} {u : V} (h : thawD (d + 1) ok H (.ref l z s n c ex) = some u) : ∃ rows, u = .imm z rows := by
  simp only [thawD] at h
  cases hB:H.blk l with
  | none => rw [hB] at h; simp at h
  | some B =>
    rw [hB] at h
    simp only [Option.bind_some] at h
    split at h
    case isFalse => cases h
    cases hm:mapRows (thawD d ok H) ((B.rows.drop s).take n) with
    | none => rw [hm] at h; simp at h
    | some rows =>
      rw [hm] at h
      simp only [Option.bind_some,Option.some.injEq] at h
      exact ⟨rows,h.symm⟩
theorem thawD_ptr {d : Nat} {ok : Bool} {H : Heap} {l i o : Nat} {u : V} (h : thawD (d + 1) ok H (.ptr l i o) = some u) : ∃ r, u = .iptr r o := by
  simp only [thawD] at h
  cases hB:H.blk l with
  | none => rw [hB] at h; simp at h
  | some B =>
    rw [hB] at h
    simp only [Option.bind_some] at h
    cases hr:B.rows[i]? with
    | none => rw [hr] at h; simp at h
    | some r =>
      rw [hr] at h
      simp only [Option.bind_some] at h
      cases hm:r.mapM (thawD d ok H) with
      | none => rw [hm] at h; simp at h
      | some r' =>
        rw [hm] at h
        simp only [Option.bind_some,Option.some.injEq] at h
        exact ⟨r',h.symm⟩
theorem thaw_ref {ok : Bool} {H : Heap} {l z s n c : Nat} {ex : Bool} {u : V} (h : thaw ok H (.ref l z s n c ex) = some u) : ∃ rows, u = .imm z rows := by
  simp only [thaw] at h
  cases hB:H.blk l with
  | none => rw [hB] at h; simp at h
  | some B =>
    rw [hB] at h
    simp only [Option.bind_some] at h
    split at h
    · injection h with h
      exact ⟨_,h.symm⟩
    · exact thawD_ref h
theorem thaw_ptr {ok : Bool} {H : Heap} {l i o : Nat} {u : V} (h : thaw ok H (.ptr l i o) = some u) : ∃ r, u = .iptr r o := by
  simp only [thaw] at h
  cases hB:H.blk l with
  | none => rw [hB] at h; simp at h
  | some B =>
    rw [hB] at h
    simp only [Option.bind_some] at h
    cases hr:B.rows[i]? with
    | none => rw [hr] at h; simp at h
    | some r =>
      rw [hr] at h
      simp only [Option.bind_some] at h
      split at h
      · injection h with h
        exact ⟨_,h.symm⟩
      · exact thawD_ptr h
theorem thaw_flat {H : Heap} {v u : V} (h : thaw true H v = some u) (hu : u.flat = true) : thaw false H v = some u := by
  have gen : ∀ v : V, (if v.flat || (true && v.closed) then some v else none) = some u → (if v.flat || (false && v.closed) then some v else none) = some u := fun v h => by
    split at h
    · injection h with h
      subst h
      simp [hu]
    · cases h
  cases v with
  | ref l z s n c ex =>
    obtain ⟨rows,rfl⟩:=thaw_ref h
    simp [V.flat] at hu
  | ptr l i o =>
    obtain ⟨r,rfl⟩:=thaw_ptr h
    simp [V.flat] at hu
  | iface t v =>
    cases v with
    | ptr l i o => simp only [thaw] at h ⊢; exact h
    | _ => simp only [thaw] at h ⊢; exact gen _ h
  | _ => simp only [thaw] at h ⊢; exact gen _ h
theorem mapM_thaw_flat {H : Heap} : ∀ {l u : List V}, l.mapM (thaw true H) = some u → u.all V.flat = true → l.mapM (thaw false H) = some u
  | [],u,h,_ => by simpa using h
  | a :: l, u, h, hu => by
    rw [List.mapM_cons] at h
    cases ha:thaw true H a with
    | none => rw [ha] at h; cases h
    | some b =>
      cases hl:l.mapM (thaw true H) with
      | none => rw [ha,hl] at h; cases h
      | some bs =>
        rw [ha,hl] at h
        cases h
        simp only [List.all_cons,Bool.and_eq_true] at hu
        rw [List.mapM_cons,thaw_flat ha hu.1,mapM_thaw_flat hl hu.2]
        rfl
theorem thaw_closed' {H : Heap} {v u : V} (h : thaw true H v = some u) : u.closed = true := by
  have gen : ∀ v : V, (if v.flat || (true && v.closed) then some v else none) = some u → u.closed = true := fun v h => by
    split at h
    · rename_i hc
      injection h with h
      subst h
      rw [Bool.true_and,Bool.or_eq_true] at hc
      exact hc.elim V.closed_of_flat id
    · cases h
  cases v with
  | ref l z s n c ex =>
    obtain ⟨rows,rfl⟩:=thaw_ref h
    rfl
  | ptr l i o =>
    obtain ⟨r,rfl⟩:=thaw_ptr h
    rfl
  | iface t v =>
    cases v with
    | ptr l i o =>
      simp only [thaw] at h
      cases hb:H.blk l with
      | none => rw [hb] at h; cases h
      | some b =>
        rw [hb] at h
        simp only [Option.bind_some] at h
        cases hr:b.rows[i]? with
        | none => rw [hr] at h; cases h
        | some r =>
          rw [hr] at h
          simp only [Option.bind_some] at h
          split at h
          · injection h with h; subst h; rfl
          · cases h
    | _ => simp only [thaw] at h; exact gen _ h
  | _ => simp only [thaw] at h; exact gen _ h
theorem flat_of2 {u:V} (h:u.closed = true) (hu:u.flat2 = true):u.flat = true:=by
 cases u <;> first | exact hu | simp [V.closed,V.flat] at h
theorem flat_ofT {u:V} (h:u.closed = true) (hu:u.flatT = true):u.flat = true:=by
 cases u <;> first | exact hu | simp [V.closed,V.flat] at h
theorem thaw2_flat {H : Heap} {v u : V} (h : thaw2 true H v = some u) (hu : u.flat2 = true) : thaw2 false H v = some u := by
  cases v with
  | agg l =>
    simp only [thaw2] at h ⊢
    cases hl:l.mapM (thaw true H) with
    | none => rw [hl] at h; cases h
    | some bs =>
      rw [hl] at h
      cases h
      rw [mapM_thaw_flat hl hu]
      rfl
  | _ =>
    simp only [thaw2] at h ⊢
    exact thaw_flat h (flat_of2 (thaw_closed' h) hu)
theorem thawV_flat {H : Heap} {v u : V} (h : thawV true H v = some u) (hu : u.flatT = true) : thawV false H v = some u := by
  cases v with
  | agg l =>
    simp only [thawV] at h ⊢
    cases hl:l.mapM (thaw true H) with
    | none => rw [hl] at h; cases h
    | some bs =>
      rw [hl] at h
      cases h
      rw [mapM_thaw_flat hl hu]
      rfl
  | tuple l =>
    simp only [thawV] at h ⊢
    cases hl:l.mapM (thaw2 true H) with
    | none => rw [hl] at h; cases h
    | some bs =>
      rw [hl] at h
      cases h
      have hu:bs.all V.flat2 = true:=hu
      have : l.mapM (thaw2 false H) = some bs := by
        induction l generalizing bs with
        | nil => simpa using hl
        | cons a l ih =>
          rw [List.mapM_cons] at hl
          cases ha:thaw2 true H a with
          | none => rw [ha] at hl; cases hl
          | some b =>
            cases hl2:l.mapM (thaw2 true H) with
            | none => rw [ha,hl2] at hl; cases hl
            | some bs2 =>
              rw [ha,hl2] at hl
              cases hl
              simp only [List.all_cons,Bool.and_eq_true] at hu
              rw [List.mapM_cons,thaw2_flat ha hu.1,ih bs2 hl2 hu.2 hu.2]
              rfl
      rw [this]
      rfl
  | _ =>
    simp only [thawV] at h ⊢
    exact thaw_flat h (flat_ofT (thaw_closed' h) hu)
theorem callRef {C : Cfg} {call : FuncId → List V → M V} {f : FuncId} {args bs : List V} {r : V} {h : Heap} (hk : C.kind f = .pure) (hm : args.mapM (thawV true h) = some bs) (ha : bs.all V.closedV = true)
    (hs:callV C call f bs = M.ret r) (hr:r.flatT = true):callV C call f args h = some (r,h):=by
  have e:=congrFun hs h
  simp only [callV,hk,callP,mapM_closedV ha,Option.bind_some,ha,Bool.false_eq_true,if_false] at e
  cases hc:call f bs Heap.empty with
  | none => rw [hc] at e; cases e
  | some x =>
    rw [hc] at e
    simp only [Option.bind_some] at e
    cases ht:thawV true x.2 x.1 with
    | none => rw [ht] at e; cases e
    | some u =>
      rw [ht] at e
      have hu : u = r := by
        simp only [Option.bind_some,M.ret] at e
        injection e with e
        exact congrArg Prod.fst e
      subst hu
      simp only [callV,hk,callP,hm,Option.bind_some,hc,Bool.false_eq_true,if_false]
      have : thawV (args.all V.closedV) x.2 x.1 = some u := by
        cases hh:args.all V.closedV with
        | true => exact ht
        | false => exact thawV_flat ht hr
      rw [this]
      rfl
theorem Run.callRef {C:Cfg} {call:FuncId → List V → M V} {f:FuncId} {args bs:List V} {r:V} {Q:V → Heap → Prop} (hk:C.kind f = .pure) (hm:args.mapM (thawV true H) = some bs) (ha:bs.all V.closedV = true)
  (hs:callV C call f bs = M.ret r) (hr:r.flatT = true):Run (callV C call f args) H Q ↔ Q r H:=Run.eq (Fv.callRef hk hm ha hs hr)
theorem Run.slice {sz n:Nat} {z:List V} {parts:List (Nat × V)} {Q:V → Heap → Prop}:Run (sliceV sz (n + 1) z parts) H Q ↔ ∃ rows,fillRows sz (List.replicate (n + 1) z) parts = some rows ∧ Q (.ref H.next sz 0 rows.length rows.length true) (H.add ⟨sz,rows⟩):=by
 cases hf:fillRows sz (List.replicate (n + 1) z) parts with
 | none => exact ⟨fun ⟨_,_,e,_⟩ => by simp [sliceV,hf] at e,fun ⟨_,e,_⟩ => (by cases e)⟩
 | some rows => exact (Run.eq (by simp only [sliceV,hf,Option.bind_some]; rfl)).trans ⟨fun q => ⟨rows,rfl,q⟩,fun ⟨_,e,q⟩ => (by cases e; exact q)⟩
def Stp (N:List V → Heap → Prop) (Q:R → Heap → Prop) (r:R) (H:Heap):Prop :=
 match r.1 with
 | .normal => N r.2 H
 | _ => Q r H
theorem Stp.normal {N:List V → Heap → Prop} {Q:R → Heap → Prop} {s:List V}:Stp N Q (Ex.normal,s) H ↔ N s H:=Iff.rfl
theorem Stp.exit {N:List V → Heap → Prop} {Q:R → Heap → Prop} {j:Nat} {s:List V}:Stp N Q (Ex.exit j,s) H ↔ Q (Ex.exit j,s) H:=Iff.rfl
theorem Stp.ret {N:List V → Heap → Prop} {Q:R → Heap → Prop} {s:List V}:Stp N Q (Ex.ret,s) H ↔ Q (Ex.ret,s) H:=Iff.rfl
theorem Run.loop {F : List V → M R} {N : Nat} (S : Nat → List V → Heap → Prop) {Q : R → Heap → Prop} {s0 : List V} {H0 : Heap} (h0 : S 0 s0 H0)
    (step:∀ i s H,i ≤ N → S i s H → Run (F s) H (Stp (fun s' H' => i < N ∧ S (i + 1) s' H') Q)):Run (loopV F s0) H0 Q:=by
  have main : ∀ k i s H, i + k = N → S i s H → Run (loopV F s) H Q := by
    intro k
    induction k with
    | zero =>
      intro i s H hi hs
      obtain ⟨⟨e,s'⟩,H',h,q⟩:=step i s H (by omega) hs
      cases e with
      | normal => exact absurd q.1 (by omega)
      | exit j => exact ⟨_,_,loopV_exit h,q⟩
      | ret => exact ⟨_,_,loopV_ret h,q⟩
    | succ k ih =>
      intro i s H hi hs
      obtain ⟨⟨e,s'⟩,H',h,q⟩:=step i s H (by omega) hs
      cases e with
      | normal =>
        obtain ⟨r,H2,e2,q2⟩:=ih (i + 1) s' H' (by omega) q.2
        exact ⟨r,H2,by rw [loopV_next h]; exact e2,q2⟩
      | exit j => exact ⟨_,_,loopV_exit h,q⟩
      | ret => exact ⟨_,_,loopV_ret h,q⟩
  exact main N 0 s0 H0 (by omega) h0
end
theorem xC:type_of% @Run.gC:=@Run.gC
theorem xG:type_of% @Run.gG:=@Run.gG
theorem xQ:type_of% @Run.gQ:=@Run.gQ
theorem w0:type_of% @exists_eq_left'.{1} ∧ type_of% @if_true.{1} ∧ type_of% @if_true.{0} ∧ type_of% @if_false.{1} ∧ type_of% @if_false.{0}:=⟨@exists_eq_left'.{1},@if_true.{1},@if_true.{0},@if_false.{1},@if_false.{0}⟩
theorem wp:type_of% @Run.bind ∧ type_of% @Run.ret ∧ type_of% @Run.lift ∧ type_of% @condT ∧ type_of% @condF ∧ type_of% @condN ∧ type_of% @guardTT ∧ type_of% @guardFT ∧ type_of% @guardTF ∧ type_of% @guardFF ∧ type_of% @guardS ∧ type_of% @guardNT ∧ type_of% @guardNF ∧ type_of% @Run.fail ∧ type_of% @Run.getN ∧ type_of% @Run.guardM ∧ type_of% @Run.qret ∧ type_of% @Run.newA ∧ type_of% @Run.newI ∧ type_of% @Run.newB ∧ type_of% @nil_ptr ∧ type_of% @Run.load1i ∧ type_of% @Run.load1p ∧ type_of% @Run.loadNi ∧ type_of% @Run.loadNp ∧ type_of% @Run.storeN ∧ type_of% @Run.out ∧ type_of% @Stp.normal ∧ type_of% @Stp.exit ∧ type_of% @Stp.ret ∧ type_of% @Heap.add_blk ∧ type_of% @Heap.add_next ∧ type_of% @Heap.add_floor ∧ type_of% @Heap.set_blk ∧ type_of% @Heap.set_next ∧ type_of% @Heap.set_floor ∧ type_of% @Heap.q_blk ∧ type_of% @Heap.q_next ∧ type_of% @Heap.q_floor ∧ type_of% @Heap.empty_next ∧ type_of% @Heap.empty_floor ∧ type_of% @padd_ptr ∧ type_of% @padd_iptr ∧ type_of% @arith_lss ∧ type_of% @arith_leq ∧ type_of% @arith_gtr ∧ type_of% @arith_geq ∧ type_of% @eq_int ∧ type_of% @eq_bool ∧ type_of% @eq_str ∧ type_of% @eq_nili ∧ type_of% @eq_ifnil ∧ type_of% @eq_nilif ∧ type_of% @pick_and ∧ type_of% @pick_or ∧ type_of% @pick_t ∧ type_of% @pick_f ∧ type_of% @un_not ∧ type_of% @cells_agg ∧ type_of% @cells_int ∧ type_of% @cells_bool ∧ type_of% @cells_str ∧ type_of% @cells_nils ∧ type_of% @cells_emp ∧ type_of% @cells_imm ∧ type_of% @cells_ref ∧ type_of% @cells_nili ∧ type_of% @cells_iface ∧ type_of% @cells_ptr ∧ type_of% @cells_nilp ∧ type_of% @cells_fn ∧ type_of% @Option.bind_some.{0,0} ∧ type_of% @Option.some.injEq.{0} ∧ type_of% @List.getD_cons_zero.{0} ∧ type_of% @List.getD_cons_succ.{0} ∧ type_of% @List.getElem?_cons_zero.{0} ∧ type_of% @List.getElem?_cons_succ.{0} ∧ type_of% @List.length_cons.{0} ∧ type_of% @List.length_nil.{0} ∧ type_of% @List.set_cons_zero.{0} ∧ type_of% @List.take_zero.{0} ∧ type_of% @List.drop_zero.{0} ∧ type_of% @List.nil_append.{0} ∧ type_of% @Nat.zero_add ∧ type_of% @Nat.add_zero ∧ type_of% @Bool.true_and ∧ type_of% @Bool.false_and ∧ type_of% @Bool.and_true ∧ type_of% @Bool.and_false ∧ type_of% @Bool.true_or ∧ type_of% @Bool.false_or ∧ type_of% @Bool.or_true ∧ type_of% @Bool.or_false ∧ type_of% @true_and ∧ type_of% @and_true ∧ type_of% @Nat.le_refl ∧ type_of% @Nat.zero_le ∧ type_of% @List.drop_succ_cons.{0} ∧ type_of% @List.take_succ_cons.{0} ∧ type_of% @List.take_nil.{0} ∧ type_of% @List.drop_nil.{0} ∧ type_of% @List.append_nil.{0} ∧ type_of% @List.cons_append.{0} ∧ type_of% @Nat.lt_add_one ∧ type_of% @Nat.lt_irrefl ∧ type_of% @Nat.mul_one ∧ type_of% @Bool.not_true ∧ type_of% @Bool.not_false ∧ type_of% @Nat.zero_lt_succ :=
 ⟨@Run.bind,@Run.ret,@Run.lift,@condT,@condF,@condN,@guardTT,@guardFT,@guardTF,@guardFF,@guardS,@guardNT,@guardNF,@Run.fail,@Run.getN,@Run.guardM,@Run.qret,@Run.newA,@Run.newI,@Run.newB,@nil_ptr,@Run.load1i,@Run.load1p,@Run.loadNi,@Run.loadNp,@Run.storeN,@Run.out,@Stp.normal,@Stp.exit,@Stp.ret,@Heap.add_blk,@Heap.add_next,@Heap.add_floor,@Heap.set_blk,@Heap.set_next,@Heap.set_floor,@Heap.q_blk,@Heap.q_next,@Heap.q_floor,@Heap.empty_next,@Heap.empty_floor,@padd_ptr,@padd_iptr,@arith_lss,@arith_leq,@arith_gtr,@arith_geq,@eq_int,@eq_bool,@eq_str,@eq_nili,@eq_ifnil,@eq_nilif,@pick_and,@pick_or,@pick_t,@pick_f,@un_not,@cells_agg,@cells_int,@cells_bool,@cells_str,@cells_nils,@cells_emp,@cells_imm,@cells_ref,@cells_nili,@cells_iface,@cells_ptr,@cells_nilp,@cells_fn,@Option.bind_some.{0,0},@Option.some.injEq.{0},@List.getD_cons_zero.{0},@List.getD_cons_succ.{0},@List.getElem?_cons_zero.{0},@List.getElem?_cons_succ.{0},@List.length_cons.{0},@List.length_nil.{0},@List.set_cons_zero.{0},@List.take_zero.{0},@List.drop_zero.{0},@List.nil_append.{0},@Nat.zero_add,@Nat.add_zero,@Bool.true_and,@Bool.false_and,@Bool.and_true,@Bool.and_false,@Bool.true_or,@Bool.false_or,@Bool.or_true,@Bool.or_false,@true_and,@and_true,@Nat.le_refl,@Nat.zero_le,@List.drop_succ_cons.{0},@List.take_succ_cons.{0},@List.take_nil.{0},@List.drop_nil.{0},@List.append_nil.{0},@List.cons_append.{0},@Nat.lt_add_one,@Nat.lt_irrefl,@Nat.mul_one,@Bool.not_true,@Bool.not_false,@Nat.zero_lt_succ⟩
end Go.Fv
