/-
  How the plain values stand to the model's values in a world. By an AI agent; no person has read it.
-/
import Derived.Test.YtekncgjkocgioaaGreatDoorFvP00
import Derived.Laws.AppendOwn
import Derived.Laws.OwnMore
import Derived.Laws.CopyRow
import Derived.Laws.NewFold
set_option linter.unusedVariables false
set_option linter.unusedSimpArgs false
set_option linter.unusedSectionVars false
/-! How the plain values stand to the model's values in a world. -/
namespace Go.Fv
open Go
structure Ctx where
 I:Nat → Prop
 ρ:Nat → Nat × Nat × Nat
 nx:Nat
 D:Nat → Prop
def roomAt (w:World) (b need:Nat):Prop:=∃ cs e f,w.heap[b]? = some (Obj.cells cs e f) ∧ need ≤ cs.size
def tagM (x:Nat × Nat × Nat):Prop:=x.2.1 = 1 ∧ x.2.2 = 0
inductive Rel (σ:Nat → Addr) (K:Ctx) (w:World):V → Value → Prop
 | undef (x:Value):Rel σ K w .undef x
 | bool (b:Bool):Rel σ K w (.bool b) (.bool b)
 | int (k:IntKind) (n:Int):Rel σ K w (.int k n) (.int k n)
 | str (s:ByteArray):Rel σ K w (.str s) (.string s)
 | agg (l:List V) (cs:Array Value) (hl:l.length = cs.size) (hc:∀ a ∈ l,a.isCell = true)
   (h:∀ (i:Nat) a b,l[i]? = some a → cs[i]? = some b → Rel σ K w a b):Rel σ K w (.agg l) (.agg cs)
 | tuple (l:List V) (cs:Array Value) (hl:l.length = cs.size)
   (h:∀ (i:Nat) a b,l[i]? = some a → cs[i]? = some b → Rel σ K w a b):Rel σ K w (.tuple l) (.tuple cs)
 | nilp:Rel σ K w .nilp (.pointer none)
 | ptr (l i o b off sz:Nat) (hl:K.D l) (hρ:K.ρ l = (b,off,sz)) (hm:¬ (off = 1 ∧ sz = 0)):Rel σ K w (.ptr l i o) (.pointer (some ⟨b,off + i * sz + o,none⟩))
 | iptr (row:List V) (o b off:Nat) (val:Nat → Value) (hI:K.I b) (hc:∀ c ∈ row,c.closed = true)
   (hw:∀ (j:Nat) c,row[j]? = some c → w.cell? ⟨b,off + j,none⟩ = some (val j))
   (h:∀ (j:Nat) c,row[j]? = some c → Rel σ K w c (val j)):Rel σ K w (.iptr row o) (.pointer (some ⟨b,off + o,none⟩))
 | ext (k:Nat):Rel σ K w (.ext k) (.pointer (some (σ k)))
 | nils:Rel σ K w .nils (.slice none 0 0)
 | emp (a:Addr):Rel σ K w .emp (.slice (some a) 0 0)
 | imm0 (sz:Nat) (a:Addr) (cap:Nat):Rel σ K w (.imm sz []) (.slice (some a) 0 cap)
 | imm (sz:Nat) (rows:List (List V)) (b off cap:Nat) (val:Nat → Nat → Value) (hI:K.I b) (hcap:rows.length ≤ cap)
   (hs:∀ r ∈ rows,r.length = sz) (hc:∀ r ∈ rows,∀ c ∈ r,c.closed = true)
   (hw:∀ (i:Nat) r (j:Nat) c,rows[i]? = some r → r[j]? = some c → w.cell? ⟨b,off + i * sz + j,none⟩ = some (val i j))
   (h:∀ (i:Nat) r (j:Nat) c,rows[i]? = some r → r[j]? = some c → Rel σ K w c (val i j)) :
   Rel σ K w (.imm sz rows) (.slice (some ⟨b,off,none⟩) rows.length cap)
 | ref (l sz s n c:Nat) (ex:Bool) (a:Addr) (cap b off:Nat) (hl:K.D l) (hρ:K.ρ l = (b,off,sz)) (hn:n ≤ c) (hc:c ≤ cap) (hex:ex = true → cap = c)
   (ha:0 < cap → a = ⟨b,off + s * sz,none⟩ ∧ roomAt w b (off + (s + cap) * sz)) (hm:¬ (off = 1 ∧ sz = 0)):Rel σ K w (.ref l sz s n c ex) (.slice (some a) n cap)
 | nili:Rel σ K w .nili .nilIface
 | iface (t:TypeId) (v:V) (x:Value) (hc:v.cells?.isSome = true) (h:Rel σ K w v x):Rel σ K w (.iface t v) (.iface t x)
 | nilf:Rel σ K w .nilf .nilFunc
 | fn (f:FuncId) (caps:List V) (cs:Array Value) (hl:caps.length = cs.size)
   (h:∀ (i:Nat) a b,caps[i]? = some a → cs[i]? = some b → Rel σ K w a b):Rel σ K w (.fn f caps) (.func (.func f) #[] cs)
 | bfn (f:FuncId) (caps:List V) (cs:Array Value) (hl:caps.length = cs.size)
   (h:∀ (i:Nat) a b,caps[i]? = some a → cs[i]? = some b → Rel σ K w a b):Rel σ K w (.bfn f caps) (.func (.func f) cs #[])
 | mp (l b:Nat) (hl:K.D l) (hρ:K.ρ l = (b,1,0)):Rel σ K w (.mp l) (.map (some b))
 | sub (l i o n c b off sz:Nat) (hl:K.D l) (hρ:K.ρ l = (b,off,sz)) (hm:¬ (off = 1 ∧ sz = 0)):Rel σ K w (.sub l i o n c) (.slice (some ⟨b,off + i * sz + o,none⟩) n c)
structure Moves (K K':Ctx) (w w':World):Prop where
 I:∀ b,K.I b → K'.I b
 ρ:∀ l,K.D l → K'.ρ l = K.ρ l
 D:∀ l,K.D l → K'.D l
 same:∀ (b:Nat),K.I b → w'.heap[b]? = w.heap[b]?
 shape:∀ (b:Nat) (cs:Array Value) (e:TypeId) (f:Nat × Nat),w.heap[b]? = some (Obj.cells cs e f) → ∃ cs' f',w'.heap[b]? = some (Obj.cells cs' e f') ∧ cs'.size = cs.size
theorem cell?_same {w w':World} {b o:Nat} (h:w'.heap[b]? = w.heap[b]?):w'.cell? ⟨b,o,none⟩ = w.cell? ⟨b,o,none⟩:=by
 simp [World.cell?,h]
theorem roomAt.mono {w w':World} {b n:Nat} (h:roomAt w b n) (hs:∀ (b:Nat) (cs:Array Value) (e:TypeId) (f:Nat × Nat),w.heap[b]? = some (Obj.cells cs e f) → ∃ cs' f',w'.heap[b]? = some (Obj.cells cs' e f') ∧ cs'.size = cs.size):roomAt w' b n:=by
 obtain ⟨cs,e,f,hh,hn⟩:=h
 obtain ⟨cs',f',hh',hs'⟩:=hs _ _ _ _ hh
 exact ⟨cs',e,f',hh',by omega⟩
theorem Rel.mono {σ : Nat → Addr} {K K' : Ctx} {w w' : World} {v : V} {x : Value} (h : Rel σ K w v x) (m : Moves K K' w w') : Rel σ K' w' v x := by
  induction h with
  | undef x => exact .undef x
  | bool b => exact .bool b
  | int k n => exact .int k n
  | str s => exact .str s
  | agg l cs hl hc _ ih => exact .agg l cs hl hc ih
  | tuple l cs hl _ ih => exact .tuple l cs hl ih
  | nilp => exact .nilp
  | ptr l i o b off sz hl hρ hm => exact .ptr l i o b off sz (m.D l hl) ((m.ρ l hl).trans hρ) hm
  | iptr row o b off val hI hc hw _ ih =>
    exact .iptr row o b off val (m.I b hI) hc (fun j c hj => by rw [cell?_same (m.same b hI)]; exact hw j c hj) ih
  | ext k => exact .ext k
  | nils => exact .nils
  | emp a => exact .emp a
  | imm0 sz a cap => exact .imm0 sz a cap
  | imm sz rows b off cap val hI hcap hs hc hw _ ih =>
    exact .imm sz rows b off cap val (m.I b hI) hcap hs hc (fun i r j c hi hj => by rw [cell?_same (m.same b hI)]; exact hw i r j c hi hj) ih
  | ref l sz s n c ex a cap b off hl hρ hn hc hex ha hm =>
    exact .ref l sz s n c ex a cap b off (m.D l hl) ((m.ρ l hl).trans hρ) hn hc hex (fun h0 => ⟨(ha h0).1,(ha h0).2.mono m.shape⟩) hm
  | nili => exact .nili
  | iface t v x hc _ ih => exact .iface t v x hc ih
  | nilf => exact .nilf
  | fn f caps cs hl _ ih => exact .fn f caps cs hl ih
  | bfn f caps cs hl _ ih => exact .bfn f caps cs hl ih
  | mp l b hl hρ => exact .mp l b (m.D l hl) ((m.ρ l hl).trans hρ)
  | sub l i o n c b off sz hl hρ hm => exact .sub l i o n c b off sz (m.D l hl) ((m.ρ l hl).trans hρ) hm
theorem Rel.closed {σ : Nat → Addr} {K K' : Ctx} {w : World} {v : V} {x : Value} (h : Rel σ K w v x) (hv : v.closed = true) (hI : ∀ b, K.I b → K'.I b) : Rel σ K' w v x := by
  induction h with
  | undef x => simp [V.closed,V.flat] at hv
  | bool b => exact .bool b
  | int k n => exact .int k n
  | str s => exact .str s
  | agg l cs hl hc _ ih => simp [V.closed,V.flat] at hv
  | tuple l cs hl _ ih => simp [V.closed,V.flat] at hv
  | nilp => exact .nilp
  | ptr l i o b off sz hl hρ => simp [V.closed,V.flat] at hv
  | iptr row o b off val hbI hc hw _ ih =>
    exact .iptr row o b off val (hI b hbI) hc hw (fun j c hj => ih j c hj (hc c (List.mem_of_getElem? hj)))
  | ext k => exact .ext k
  | nils => exact .nils
  | emp a => exact .emp a
  | imm0 sz a cap => exact .imm0 sz a cap
  | imm sz rows b off cap val hbI hcap hs hc hw _ ih =>
    exact .imm sz rows b off cap val (hI b hbI) hcap hs hc hw (fun i r j c hi hj => ih i r j c hi hj (hc r (List.mem_of_getElem? hi) c (List.mem_of_getElem? hj)))
  | ref l sz s n c ex a cap b off hl hρ hn hc hex ha => simp [V.closed,V.flat] at hv
  | nili => exact .nili
  | iface t v x hc hx ih =>
    refine .iface t v x hc (ih ?_)
    cases v <;> simp_all [V.closed,V.flat]
  | nilf => exact .nilf
  | fn f caps cs hl _ ih => simp [V.closed,V.flat] at hv
  | bfn f caps cs hl _ ih => simp [V.closed,V.flat] at hv
  | mp l b hl hρ => simp [V.closed,V.flat] at hv
  | sub l i o n c b off sz hl hρ hm => simp [V.closed,V.flat] at hv
theorem V.cell_of_closed {v:V} (h:v.closed = true):v.isCell = true:=by
 cases v <;> simp_all [V.closed,V.flat,V.isCell]
theorem V.closed_of_flat {v:V} (h:v.flat = true):v.closed = true:=by
 cases v with
 | iface t v => cases v <;> simp_all [V.closed,V.flat]
 | _ => simp_all [V.closed]
theorem Rel.oneCell {σ:Nat → Addr} {K:Ctx} {w:World} {v:V} {x:Value} (h:Rel σ K w v x) (hv:v.isCell = true):x.oneCell' = true:=by
 cases h <;> simp_all [V.isCell,Value.oneCell']
theorem Rel.cells {σ:Nat → Addr} {K:Ctx} {w:World} {v:V} {x:Value} (h:Rel σ K w v x) {cs:List V} (hv:v.cells? = some cs) :
  cs.length = x.cells.size ∧ (∀ c ∈ cs,c.isCell = true) ∧ ∀ (i:Nat) a b,cs[i]? = some a → x.cells[i]? = some b → Rel σ K w a b:=by
 have one:∀ v x,Rel σ K w v x → V.isCell v = true → V.cells? v = some cs → Value.cells x = #[x] → v.cells? = some [v] →
   cs.length = x.cells.size ∧ (∀ c ∈ cs,c.isCell = true) ∧ ∀ (i:Nat) a b,cs[i]? = some a → x.cells[i]? = some b → Rel σ K w a b:=by
  intro v x h hc hv hx h1
  rw [h1] at hv
  injection hv with hv
  subst hv
  rw [hx]
  refine ⟨rfl,by simpa using hc,?_⟩
  intro i a b ha hb
  cases i with
  | zero => simp at ha hb; subst ha; subst hb; exact h
  | succ i => simp at ha
 cases h with
 | agg l xs hl hc h => simp [V.cells?] at hv; subst hv; exact ⟨hl,hc,h⟩
 | undef x => simp [V.cells?] at hv
 | tuple l xs hl h => simp [V.cells?] at hv
 | bool b => exact one _ _ (.bool b) rfl hv rfl rfl
 | int k n => exact one _ _ (.int k n) rfl hv rfl rfl
 | str s => exact one _ _ (.str s) rfl hv rfl rfl
 | nilp => exact one _ _ .nilp rfl hv rfl rfl
 | ptr l i o b off sz hl hρ hm => exact one _ _ (.ptr l i o b off sz hl hρ hm) rfl hv rfl rfl
 | mp l b hl hρ => exact one _ _ (.mp l b hl hρ) rfl hv rfl rfl
 | sub l i o n c b off sz hl hρ hm => exact one _ _ (.sub l i o n c b off sz hl hρ hm) rfl hv rfl rfl
 | iptr row o b off val hI hc hw h => exact one _ _ (.iptr row o b off val hI hc hw h) rfl hv rfl rfl
 | ext k => exact one _ _ (.ext k) rfl hv rfl rfl
 | nils => exact one _ _ .nils rfl hv rfl rfl
 | emp a => exact one _ _ (.emp a) rfl hv rfl rfl
 | imm0 sz a cap => exact one _ _ (.imm0 sz a cap) rfl hv rfl rfl
 | imm sz rows b off cap val hI hcap hs hc hw h => exact one _ _ (.imm sz rows b off cap val hI hcap hs hc hw h) rfl hv rfl rfl
 | ref l sz s n c ex a cap b off hl hρ hn hc hex ha hm => exact one _ _ (.ref l sz s n c ex a cap b off hl hρ hn hc hex ha hm) rfl hv rfl rfl
 | nili => exact one _ _ .nili rfl hv rfl rfl
 | iface t v x hc h => exact one _ _ (.iface t v x hc h) rfl hv rfl rfl
 | nilf => exact one _ _ .nilf rfl hv rfl rfl
 | fn f caps cs' hl h => exact one _ _ (.fn f caps cs' hl h) rfl hv rfl rfl
 | bfn f caps cs' hl h => exact one _ _ (.bfn f caps cs' hl h) rfl hv rfl rfl
def Lies (w:World) (b:Nat) (cs:Array Value) (e:TypeId):Prop:=∃ f:Nat × Nat,w.heap[b]? = some (Obj.cells cs e f) ∧ (f = (0,0) ∨ cs.size ≤ f.1)
theorem Lies.lt {w:World} {b:Nat} {cs:Array Value} {e:TypeId} (h:Lies w b cs e):b < w.heap.size:=by
 obtain ⟨f,h,_⟩:=h
 exact (Array.getElem?_eq_some_iff.1 h).1
theorem Lies.same {w w':World} {b:Nat} {cs:Array Value} {e:TypeId} (h:Lies w b cs e) (hh:w'.heap[b]? = w.heap[b]?):Lies w' b cs e:=by
 obtain ⟨f,h,g⟩:=h
 exact ⟨f,hh.trans h,g⟩
theorem Lies.cell {w:World} {b:Nat} {cs:Array Value} {e:TypeId} (h:Lies w b cs e) (o:Nat):w.cell? ⟨b,o,none⟩ = cs[o]?:=by
 obtain ⟨f,h,_⟩:=h
 exact cell_of_row w b _ cs e f h
theorem Lies.row {w:World} {b:Nat} {cs:Array Value} {e:TypeId} (h:Lies w b cs e):∃ f,w.heap[b]? = some (Obj.cells cs e f):=by
 obtain ⟨f,h,_⟩:=h
 exact ⟨f,h⟩
theorem Lies.set {w:World} {b:Nat} {cs cs':Array Value} {e:TypeId} (h:Lies w b cs e) (hs:cs'.size = cs.size):Lies (w.setRow b cs') b cs' e:=by
 obtain ⟨f,h,g⟩:=h
 exact ⟨f,setRow_heap w b cs cs' e f h,by rw [hs]; exact g⟩
theorem Lies.room {w:World} {b:Nat} {cs:Array Value} {e:TypeId} (h:Lies w b cs e) {n:Nat} (r:roomAt w b n):n ≤ cs.size:=by
 obtain ⟨f,h,_⟩:=h
 obtain ⟨cs0,e0,f0,r1,r2⟩:=r
 rw [h] at r1
 injection r1 with r1
 injection r1 with r1 r3 r4
 subst r1
 exact r2
def MapRows (R:V → Value → Prop):List (List V) → List MapEntry → Prop
 | [],[] => True
 | r :: rs,e :: es => (∃ q n v,r = [.int q n,v] ∧ R v e.val ∧ e.key = .int q n) ∧ MapRows R rs es
 | _,_ => False
theorem MapRows.mono {R R':V → Value → Prop} (hR:∀ v x,R v x → R' v x):∀ {rows:List (List V)} {es:List MapEntry},MapRows R rows es → MapRows R' rows es
 | [],[],_ => trivial
 | [],_ :: _,h => h.elim
 | _ :: _,[],h => h.elim
 | _ :: _,_ :: _,⟨⟨q,n,v,e1,e2,e3⟩,h⟩ => ⟨⟨q,n,v,e1,hR _ _ e2,e3⟩,h.mono hR⟩
def MapObj (σ:Nat → Addr) (K:Ctx) (w:World) (g:Nat) (rows:List (List V)):Prop:=∃ es clock,w.heap[g]? = some (Obj.map es clock) ∧ MapRows (Rel σ K w) rows es.toList
theorem MapObj.same {σ:Nat → Addr} {K K':Ctx} {w w':World} {g:Nat} {rows:List (List V)} (h:MapObj σ K w g rows) (hh:w'.heap[g]? = w.heap[g]?) (m:Moves K K' w w'):MapObj σ K' w' g rows:=by
 obtain ⟨es,clock,h1,h2⟩:=h
 exact ⟨es,clock,hh.trans h1,h2.mono fun _ _ h => h.mono m⟩
theorem MapObj.lt {σ:Nat → Addr} {K:Ctx} {w:World} {g:Nat} {rows:List (List V)} (h:MapObj σ K w g rows):g < w.heap.size:=by
 obtain ⟨es,clock,h1,_⟩:=h
 exact (Array.getElem?_eq_some_iff.1 h1).1
structure BlkAt (σ:Nat → Addr) (K:Ctx) (w:World) (l:Nat) (b:Blk):Prop where
 lt:K.D l
 sz:(K.ρ l).2.2 = b.sz
 own:¬ K.I (K.ρ l).1
 rows':¬ tagM (K.ρ l) → ∀ r ∈ b.rows,r.length = b.sz
 at':¬ tagM (K.ρ l) → ∃ cs e,Lies w (K.ρ l).1 cs e ∧ (K.ρ l).2.1 + b.rows.length * b.sz ≤ cs.size ∧
  ∀ (i:Nat) r (j:Nat) c,b.rows[i]? = some r → r[j]? = some c → c.isCell = true ∧ ∃ x,cs[(K.ρ l).2.1 + i * b.sz + j]? = some x ∧ Rel σ K w c x
 mp':tagM (K.ρ l) → MapObj σ K w (K.ρ l).1 b.rows
theorem BlkAt.lt_size {σ:Nat → Addr} {K:Ctx} {w:World} {l:Nat} {B:Blk} (h:BlkAt σ K w l B):(K.ρ l).1 < w.heap.size:=by
 by_cases t:tagM (K.ρ l)
 ·exact (h.mp' t).lt
 ·obtain ⟨cs,e,h1,_⟩:=h.at' t
  exact h1.lt
theorem tag_not {K:Ctx} {l b off sz:Nat} (hρ:K.ρ l = (b,off,sz)) (hm:¬ (off = 1 ∧ sz = 0)):¬ tagM (K.ρ l):=by
 rw [hρ]; exact hm
theorem BlkAt.mk0 {σ:Nat → Addr} {K:Ctx} {w:World} {l:Nat} {b:Blk} (lt:K.D l) (sz:(K.ρ l).2.2 = b.sz) (own:¬ K.I (K.ρ l).1) (rows:∀ r ∈ b.rows,r.length = b.sz)
  (at_:∃ cs e,Lies w (K.ρ l).1 cs e ∧ (K.ρ l).2.1 + b.rows.length * b.sz ≤ cs.size ∧
   ∀ (i:Nat) r (j:Nat) c,b.rows[i]? = some r → r[j]? = some c → c.isCell = true ∧ ∃ x,cs[(K.ρ l).2.1 + i * b.sz + j]? = some x ∧ Rel σ K w c x) (hm:¬ tagM (K.ρ l)):BlkAt σ K w l b :=
 ⟨lt,sz,own,fun _ => rows,fun _ => at_,fun t => absurd t hm⟩
theorem BlkAt.keep {σ:Nat → Addr} {K K':Ctx} {w w':World} {l:Nat} {B:Blk} (h:BlkAt σ K w l B) (mv:Moves K K' w w') (hD:K'.D l) (hρ:K'.ρ l = K.ρ l) (hh:w'.heap[(K.ρ l).1]? = w.heap[(K.ρ l).1]?) (hI:¬ K'.I (K.ρ l).1):BlkAt σ K' w' l B:=by
 refine ⟨hD,by rw [hρ]; exact h.sz,by rw [hρ]; exact hI,fun t => h.rows' (by rw [← hρ]; exact t),fun t => ?_,fun t => by rw [hρ]; exact (h.mp' (by rw [← hρ]; exact t)).same hh mv⟩
 obtain ⟨cs,e,h1,h2,h3⟩:=h.at' (by rw [← hρ]; exact t)
 refine ⟨cs,e,by rw [hρ]; exact h1.same hh,by rw [hρ]; exact h2,fun i r j c hi hj => ?_⟩
 obtain ⟨q1,x,q2,q3⟩:=h3 i r j c hi hj
 exact ⟨q1,x,by rw [hρ]; exact q2,q3.mono mv⟩
structure Inv (σ:Nat → Addr) (K:Ctx) (H:Heap) (w:World):Prop where
 nx:K.nx = H.next
 dom:∀ l,K.D l → l < K.nx
 flo:H.floor ≤ H.next
 blk:∀ l b,H.blk l = some b → BlkAt σ K w l b
 inj:∀ l l' b b',H.blk l = some b → H.blk l' = some b' → (K.ρ l).1 = (K.ρ l').1 → l = l'
 imm:∀ b,K.I b → b < w.heap.size
structure Evo (K:Ctx) (H:Heap) (w:World) (K':Ctx) (H':Heap) (w':World):Prop where
 I:∀ b,K.I b → K'.I b
 ρ:∀ l,K.D l → K'.ρ l = K.ρ l
 D:∀ l,K.D l → K'.D l
 nx:K.nx ≤ K'.nx
 floor:H'.floor = H.floor
 low:∀ l,l < H.floor → l < H.next → H'.blk l = H.blk l
 frame:∀ (b:Nat),b < w.heap.size → (∀ l B,H.blk l = some B → H.floor ≤ l → (K.ρ l).1 ≠ b) → w'.heap[b]? = w.heap[b]?
 shape:∀ (b:Nat) (cs:Array Value) (e:TypeId) (f:Nat × Nat),w.heap[b]? = some (Obj.cells cs e f) → ∃ cs' f',w'.heap[b]? = some (Obj.cells cs' e f') ∧ cs'.size = cs.size
 size:w.heap.size ≤ w'.heap.size
 os:w'.os = w.os
 tape:w'.tape = w.tape
 output:w'.output = w.output
 range:∀ l B,H'.blk l = some B → (K'.ρ l).1 < w.heap.size → ∃ l0 B0,H.blk l0 = some B0 ∧ (K.ρ l0).1 = (K'.ρ l).1 ∧ (l0 = l ∨ H.floor ≤ l0)
 newI:∀ (b:Nat),K'.I b → b < w.heap.size → K.I b
 newD:∀ l,K'.D l → l < K.nx → K.D l
theorem Evo.refl (K:Ctx) (H:Heap) (w:World):Evo K H w K H w where
 I:=fun _ h => h
 ρ:=fun _ _ => rfl
 D:=fun _ h => h
 nx:=Nat.le_refl _
 floor:=rfl
 low:=fun _ _ _ => rfl
 frame:=fun _ _ _ => rfl
 shape:=fun b cs e f h => ⟨cs,f,h,rfl⟩
 size:=Nat.le_refl _
 os:=rfl
 tape:=rfl
 output:=rfl
 range:=fun l B h _ => ⟨l,B,h,rfl,.inl rfl⟩
 newI:=fun _ h _ => h
 newD:=fun _ h _ => h
theorem Inv.moves {σ:Nat → Addr} {K K':Ctx} {H H':Heap} {w w':World} (inv:Inv σ K H w) (e:Evo K H w K' H' w'):Moves K K' w w' where
 I:=e.I
 ρ:=e.ρ
 D:=e.D
 same:=fun b hb => e.frame b (inv.imm b hb) (fun l B hl _ he => (inv.blk l B hl).own (he ▸ hb))
 shape:=e.shape
theorem Evo.trans {σ:Nat → Addr} {K K1 K2:Ctx} {H H1 H2:Heap} {w w1 w2:World} (i0:Inv σ K H w) (i1:Inv σ K1 H1 w1) (a:Evo K H w K1 H1 w1) (b:Evo K1 H1 w1 K2 H2 w2):Evo K H w K2 H2 w2 where
 I:=fun x h => b.I x (a.I x h)
 ρ:=fun l h => (b.ρ l (a.D l h)).trans (a.ρ l h)
 D:=fun l h => b.D l (a.D l h)
 nx:=Nat.le_trans a.nx b.nx
 floor:=b.floor.trans a.floor
 low:=fun l h h' => (b.low l (a.floor ▸ h) (Nat.lt_of_lt_of_le h' (by have:=a.nx; rw [i0.nx,i1.nx] at this; exact this))).trans (a.low l h h')
 frame:=fun x hx hl => (b.frame x (Nat.lt_of_lt_of_le hx a.size) (fun l B hB hf he => by
  obtain ⟨l0,B0,h0,e0,hor⟩:=a.range l B hB (he ▸ hx)
  rcases hor with rfl | hor
  ·exact hl l0 B0 h0 (a.floor ▸ hf) (e0.trans he)
  ·exact hl l0 B0 h0 hor (e0.trans he))).trans (a.frame x hx hl)
 shape:=fun x cs e f h => by
  obtain ⟨cs1,f1,h1,s1⟩:=a.shape x cs e f h
  obtain ⟨cs2,f2,h2,s2⟩:=b.shape x cs1 e f1 h1
  exact ⟨cs2,f2,h2,s2.trans s1⟩
 size:=Nat.le_trans a.size b.size
 os:=b.os.trans a.os
 tape:=b.tape.trans a.tape
 output:=b.output.trans a.output
 range:=fun l B hB hlt => by
  obtain ⟨l1,B1,h1,e1,o1⟩:=b.range l B hB (Nat.lt_of_lt_of_le hlt a.size)
  obtain ⟨l0,B0,h0,e0,o0⟩:=a.range l1 B1 h1 (e1 ▸ hlt)
  refine ⟨l0,B0,h0,e0.trans e1,?_⟩
  rcases o0 with rfl | o0
  ·rcases o1 with rfl | o1
   ·exact .inl rfl
   ·exact .inr (a.floor ▸ o1)
  ·exact .inr o0
 newI:=fun x hx hlt => a.newI x (b.newI x hx (Nat.lt_of_lt_of_le hlt a.size)) hlt
 newD:=fun l h hlt => a.newD l (b.newD l h (Nat.lt_of_lt_of_le hlt a.nx)) hlt
theorem Inv.addF {σ:Nat → Addr} {K:Ctx} {H:Heap} {w:World} (inv:Inv σ K H w) (t:TypeId) (sz:Nat) (rows:List (List V)) (cs:Array Value) (fz:Nat × Nat) (hfz:fz = (0,0) ∨ cs.size ≤ fz.1)
  (hs:∀ r ∈ rows,r.length = sz) (hroom:rows.length * sz ≤ cs.size)
  (hc:∀ (i:Nat) r (j:Nat) c,rows[i]? = some r → r[j]? = some c → c.isCell = true ∧ ∃ x,cs[i * sz + j]? = some x ∧ Rel σ K w c x) :
  ∃ K',Inv σ K' (H.add ⟨sz,rows⟩) (w.alloc (Obj.cells cs t fz)) ∧ Evo K H w K' (H.add ⟨sz,rows⟩) (w.alloc (Obj.cells cs t fz)) ∧ K'.nx = K.nx + 1 ∧ K'.ρ K.nx = (w.heap.size,0,sz) ∧ K'.D K.nx:=by
 let K':Ctx:=⟨K.I,fun l => if l = K.nx then (w.heap.size,0,sz) else K.ρ l,K.nx + 1,fun l => K.D l ∨ l = K.nx⟩
 have hnew:(w.alloc (Obj.cells cs t fz)).heap[w.heap.size]? = some (Obj.cells cs t fz):=heap_alloc_new w _
 have hold:∀ i,i < w.heap.size → (w.alloc (Obj.cells cs t fz)).heap[i]? = w.heap[i]?:=fun i hi => heap_alloc_old w _ i hi
 have hlt:∀ (b:Nat) o,w.heap[b]? = some o → b < w.heap.size:=fun b o h => (Array.getElem?_eq_some_iff.1 h).1
 have evo:Evo K H w K' (H.add ⟨sz,rows⟩) (w.alloc (Obj.cells cs t fz)):={
  I:=fun _ h => h
  ρ:=fun l hl => by show (if l = K.nx then _ else _) = _; rw [if_neg (by have:=inv.dom l hl; omega)]
  D:=fun l h => .inl h
  nx:=Nat.le_succ _
  floor:=rfl
  low:=fun l _ hl => by show (if l = H.next then _ else _) = _; rw [if_neg (by omega)]
  frame:=fun b hb _ => hold b hb
  shape:=fun b cs' e f h => ⟨cs',f,(hold b (hlt _ _ h)).trans h,rfl⟩
  size:=by show w.heap.size ≤ (w.heap.push _).size; simp
  os:=rfl
  tape:=rfl
  output:=rfl
  range:=fun l B hB hl => by
   by_cases e:l = H.next
   ·have h0:K'.ρ l = (w.heap.size,0,sz):=by show (if l = K.nx then _ else _) = _; rw [if_pos (e.trans inv.nx.symm)]
    rw [h0] at hl
    exact absurd hl (Nat.lt_irrefl _)
   ·have hB':H.blk l = some B:=by have:(if l = H.next then _ else _) = some B:=hB; rwa [if_neg e] at this
    have h0:K'.ρ l = K.ρ l:=by show (if l = K.nx then _ else _) = _; rw [if_neg (by rw [inv.nx]; exact e)]
    exact ⟨l,B,hB',by rw [h0],.inl rfl⟩
  newI:=fun b h _ => h
  newD:=fun l h hlt => h.resolve_right (by omega) }
 have mv:=inv.moves evo
 refine ⟨K',⟨by show K.nx + 1 = H.next + 1; rw [inv.nx],fun l h => by show l < K.nx + 1; rcases h with h | h; (have:=inv.dom l h; omega); omega,Nat.le_succ_of_le inv.flo,?_,?_,fun b hb => Nat.lt_of_lt_of_le (inv.imm b hb) evo.size⟩,evo,rfl,by show (if K.nx = K.nx then _ else _) = _; rw [if_pos rfl],.inr rfl⟩
 ·intro l B hB
  by_cases e:l = H.next
  ·have hρ:K'.ρ l = (w.heap.size,0,sz):=by show (if l = K.nx then _ else _) = _; rw [if_pos (e.trans inv.nx.symm)]
   have hB':B = ⟨sz,rows⟩:=by have:(if l = H.next then _ else _) = some B:=hB; rw [if_pos e] at this; injection this with this; exact this.symm
   subst hB'
   refine .mk0 (.inr (e.trans inv.nx.symm)) (by rw [hρ]) (by rw [hρ]; exact fun h => absurd (inv.imm _ h) (Nat.lt_irrefl _)) hs ⟨cs,t,by rw [hρ]; exact ⟨fz,hnew,hfz⟩,by rw [hρ]; simpa using hroom,?_⟩ (by rw [hρ]; exact fun h => absurd h.1 Nat.zero_ne_one)
   intro i r j c hi hj
   obtain ⟨h1,x,h2,h3⟩:=hc i r j c hi hj
   exact ⟨h1,x,by rw [hρ]; simpa using h2,h3.mono mv⟩
  ·have hB':H.blk l = some B:=by have:(if l = H.next then _ else _) = some B:=hB; rwa [if_neg e] at this
   have hb:=inv.blk l B hB'
   have hρ:K'.ρ l = K.ρ l:=by show (if l = K.nx then _ else _) = _; rw [if_neg (by rw [inv.nx]; exact e)]
   exact hb.keep mv (.inl hb.lt) hρ (hold _ hb.lt_size) hb.own
 ·intro l l' B B' hB hB' he
  have old:∀ l B,(H.add ⟨sz,rows⟩).blk l = some B → l ≠ H.next → H.blk l = some B ∧ K'.ρ l = K.ρ l ∧ (K'.ρ l).1 < w.heap.size:=fun l B hB e => by
   have hB':H.blk l = some B:=by have:(if l = H.next then _ else _) = some B:=hB; rwa [if_neg e] at this
   have hρ:K'.ρ l = K.ρ l:=by show (if l = K.nx then _ else _) = _; rw [if_neg (by rw [inv.nx]; exact e)]
   exact ⟨hB',hρ,by rw [hρ]; exact (inv.blk l B hB').lt_size⟩
  have new:∀ l,l = H.next → (K'.ρ l).1 = w.heap.size:=fun l e => by
   have h0:K'.ρ l = (w.heap.size,0,sz):=by show (if l = K.nx then _ else _) = _; rw [if_pos (e.trans inv.nx.symm)]
   rw [h0]
  by_cases e:l = H.next <;> by_cases e':l' = H.next
  ·rw [e,e']
  ·have:=(old l' B' hB' e').2.2; have:=new l e; omega
  ·have:=(old l B hB e).2.2; have:=new l' e'; omega
  ·obtain ⟨a1,a2,_⟩:=old l B hB e
   obtain ⟨b1,b2,_⟩:=old l' B' hB' e'
   exact inv.inj l l' B B' a1 b1 (by rw [← a2,← b2]; exact he)
theorem Inv.add {σ:Nat → Addr} {K:Ctx} {H:Heap} {w:World} (inv:Inv σ K H w) (t:TypeId) (sz:Nat) (rows:List (List V)) (cs:Array Value)
  (hs:∀ r ∈ rows,r.length = sz) (hroom:rows.length * sz ≤ cs.size)
  (hc:∀ (i:Nat) r (j:Nat) c,rows[i]? = some r → r[j]? = some c → c.isCell = true ∧ ∃ x,cs[i * sz + j]? = some x ∧ Rel σ K w c x) :
  ∃ K',Inv σ K' (H.add ⟨sz,rows⟩) (w.alloc (Obj.cells cs t)) ∧ Evo K H w K' (H.add ⟨sz,rows⟩) (w.alloc (Obj.cells cs t)) ∧ K'.nx = K.nx + 1 ∧ K'.ρ K.nx = (w.heap.size,0,sz) ∧ K'.D K.nx :=
 inv.addF t sz rows cs (0,0) (.inl rfl) hs hroom hc
theorem Inv.write {σ:Nat → Addr} {K:Ctx} {H:Heap} {w:World} (inv:Inv σ K H w) {l:Nat} {b:Blk} (hb:H.blk l = some b) (hf:H.floor ≤ l) (hm:¬ tagM (K.ρ l))
  {cs cs':Array Value} {e:TypeId} {rows:List (List V)} (hcs:Lies w (K.ρ l).1 cs e) (hsz:cs'.size = cs.size)
  (hs:∀ r ∈ rows,r.length = b.sz) (hroom:(K.ρ l).2.1 + rows.length * b.sz ≤ cs'.size)
  (hc:∀ (i:Nat) r (j:Nat) c,rows[i]? = some r → r[j]? = some c → c.isCell = true ∧ ∃ x,cs'[(K.ρ l).2.1 + i * b.sz + j]? = some x ∧ Rel σ K w c x) :
  Inv σ K (H.set l ⟨b.sz,rows⟩) (w.setRow (K.ρ l).1 cs') ∧ Evo K H w K (H.set l ⟨b.sz,rows⟩) (w.setRow (K.ρ l).1 cs'):=by
 have hnew:Lies (w.setRow (K.ρ l).1 cs') (K.ρ l).1 cs' e:=hcs.set hsz
 have hold:∀ i,i ≠ (K.ρ l).1 → (w.setRow (K.ρ l).1 cs').heap[i]? = w.heap[i]?:=fun i hi => setRow_other w _ i _ hi
 have hl:=(inv.blk l b hb).lt
 have evo:Evo K H w K (H.set l ⟨b.sz,rows⟩) (w.setRow (K.ρ l).1 cs'):={
  I:=fun _ h => h
  ρ:=fun _ _ => rfl
  D:=fun _ h => h
  nx:=Nat.le_refl _
  floor:=rfl
  low:=fun l' h' _ => by show (if l' = l then _ else _) = _; rw [if_neg (by omega)]
  frame:=fun i _ hi => hold i (fun e => hi l b hb hf e.symm)
  shape:=fun i cs1 e1 f1 h => by
   by_cases hi:i = (K.ρ l).1
   ·subst hi
    obtain ⟨f,hf',_⟩:=hcs
    rw [hf'] at h
    injection h with h
    injection h with h1 h2 h3
    subst h1; subst h2
    exact ⟨cs',f,setRow_heap w _ _ _ _ _ hf',hsz⟩
   ·exact ⟨cs1,f1,(hold i hi).trans h,rfl⟩
  size:=by simp
  os:=rfl
  tape:=rfl
  output:=rfl
  range:=fun l' B hB _ => by
   by_cases e:l' = l
   ·exact ⟨l',b,e ▸ hb,rfl,.inl rfl⟩
   ·have hB':H.blk l' = some B:=by have:(if l' = l then _ else _) = some B:=hB; rwa [if_neg e] at this
    exact ⟨l',B,hB',rfl,.inl rfl⟩
  newI:=fun _ h _ => h
  newD:=fun _ h _ => h }
 have mv:=inv.moves evo
 refine ⟨⟨inv.nx,inv.dom,inv.flo,?_,?_,fun i hi => by simpa using inv.imm i hi⟩,evo⟩
 ·intro l' B hB
  by_cases e:l' = l
  ·subst e
   have hB':B = ⟨b.sz,rows⟩:=by have:(if l' = l' then _ else _) = some B:=hB; rw [if_pos rfl] at this; injection this with this; exact this.symm
   subst hB'
   have h0:=inv.blk l' b hb
   refine .mk0 h0.lt h0.sz h0.own hs ⟨cs',_,hnew,hroom,?_⟩ hm
   intro i r j c hi hj
   obtain ⟨h3,x,h4,h5⟩:=hc i r j c hi hj
   exact ⟨h3,x,h4,h5.mono mv⟩
  ·have hB':H.blk l' = some B:=by have:(if l' = l then _ else _) = some B:=hB; rwa [if_neg e] at this
   have h0:=inv.blk l' B hB'
   exact h0.keep mv h0.lt rfl (hold _ (fun he => e (inv.inj _ _ _ _ hB' hb he))) h0.own
 ·intro l1 l2 B1 B2 h1 h2 he
  have live:∀ l' B,(H.set l ⟨b.sz,rows⟩).blk l' = some B → ∃ B',H.blk l' = some B':=fun l' B hB => by
   by_cases e:l' = l
   ·exact ⟨b,e ▸ hb⟩
   ·exact ⟨B,by have:(if l' = l then _ else _) = some B:=hB; rwa [if_neg e] at this⟩
  obtain ⟨C1,g1⟩:=live l1 B1 h1
  obtain ⟨C2,g2⟩:=live l2 B2 h2
  exact inv.inj _ _ _ _ g1 g2 he
theorem Inv.kill {σ:Nat → Addr} {K:Ctx} {H:Heap} {w:World} (inv:Inv σ K H w) {l:Nat} (hf:H.floor ≤ l):Inv σ K (H.kill l) w ∧ Evo K H w K (H.kill l) w:=by
 have live:∀ l' B,(H.kill l).blk l' = some B → H.blk l' = some B:=fun l' B hB => by
  by_cases e:l' = l
  ·have:(if l' = l then none else _) = some B:=hB; rw [if_pos e] at this; cases this
  ·have:(if l' = l then none else _) = some B:=hB; rwa [if_neg e] at this
 refine ⟨⟨inv.nx,inv.dom,inv.flo,fun l' B hB => inv.blk l' B (live _ _ hB),fun l1 l2 B1 B2 h1 h2 => inv.inj _ _ _ _ (live _ _ h1) (live _ _ h2),inv.imm⟩,?_⟩
 exact { Evo.refl K H w with
  low:=fun l' h' _ => by show (if l' = l then none else _) = _; rw [if_neg (by omega)]
  range:=fun l' B hB _ => ⟨l',B,live _ _ hB,rfl,.inl rfl⟩ }
theorem Inv.junk {σ:Nat → Addr} {K:Ctx} {H:Heap} {w:World} (inv:Inv σ K H w) (o:Obj):Inv σ K H (w.alloc o) ∧ Evo K H w K H (w.alloc o):=by
 have hold:∀ i,i < w.heap.size → (w.alloc o).heap[i]? = w.heap[i]?:=fun i hi => heap_alloc_old w _ i hi
 have hlt:∀ (b:Nat) o,w.heap[b]? = some o → b < w.heap.size:=fun b o h => (Array.getElem?_eq_some_iff.1 h).1
 have evo:Evo K H w K H (w.alloc o):={
  I:=fun _ h => h
  ρ:=fun _ _ => rfl
  D:=fun _ h => h
  nx:=Nat.le_refl _
  floor:=rfl
  low:=fun _ _ _ => rfl
  frame:=fun b hb _ => hold b hb
  shape:=fun b cs' e f h => ⟨cs',f,(hold b (hlt _ _ h)).trans h,rfl⟩
  size:=by show w.heap.size ≤ (w.heap.push _).size; simp
  os:=rfl
  tape:=rfl
  output:=rfl
  range:=fun l B h _ => ⟨l,B,h,rfl,.inl rfl⟩
  newI:=fun _ h _ => h
  newD:=fun _ h _ => h }
 have mv:=inv.moves evo
 refine ⟨⟨inv.nx,inv.dom,inv.flo,fun l B hB => ?_,inv.inj,fun b hb => Nat.lt_of_lt_of_le (inv.imm b hb) evo.size⟩,evo⟩
 have h0:=inv.blk l B hB
 exact h0.keep mv h0.lt rfl (hold _ h0.lt_size) h0.own
theorem Inv.drew {σ:Nat → Addr} {K:Ctx} {H:Heap} {w:World} (inv:Inv σ K H w):Inv σ K H w.drew ∧ Evo K H w K H w.drew:=by
 have evo:Evo K H w K H w.drew:={ Evo.refl K H w with
  frame:=fun _ _ _ => rfl
  shape:=fun b cs e f h => ⟨cs,f,h,rfl⟩
  size:=Nat.le_refl _
  os:=rfl
  tape:=rfl
  output:=rfl
  range:=fun l B h _ => ⟨l,B,h,rfl,.inl rfl⟩
  newI:=fun _ h _ => h
  newD:=fun _ h _ => h }
 have mv:=inv.moves evo
 refine ⟨⟨inv.nx,inv.dom,inv.flo,fun l B hB => ?_,inv.inj,inv.imm⟩,evo⟩
 have h0:=inv.blk l B hB
 exact h0.keep mv h0.lt rfl rfl h0.own
end Go.Fv
