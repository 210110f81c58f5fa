/-
  A value semantics of the model's code: slices that come in are plain lists of rows, what a call makes lies in a small heap of its own. How the plain values stand to the model's values in a world. Rows of cells, flat. Each operation on plain values is the model's operation on what stands for them. Operations, further: without memory. Operations, further: numbers, tests, parts. Operations, further: '==' and '!='. Operations, further: what is built. Operations, further: slices made, append, copy, clear. Operations, further: append, copy, clear, make. Operations, further: bytes and strings. By an AI agent; no person has read it.
-/
import Derived.Orders
import Derived.Below
import Derived.Laws.AppendOwn
import Derived.Laws.OwnMore
import Derived.Laws.CopyRow
import Derived.Laws.NewFold
import Derived.Laws.StructEq
import Derived.Laws.BytesString
set_option linter.unusedVariables false
set_option linter.unusedSimpArgs false
set_option linter.unusedSectionVars false
/-! A value semantics of the model's code: slices that come in are plain lists of rows, what a call makes lies in a small heap of its own. -/
namespace Go.Fv
open Go

inductive V where
  | undef
  | bool (b : Bool)
  | int (k : IntKind) (n : Int)
  | str (s : ByteArray)
  | agg (l : List V)
  | tuple (l : List V)
  | nilp
  | ptr (l i off : Nat)
  | iptr (row : List V) (off : Nat)
  | ext (k : Nat)
  | nils
  | emp
  | imm (sz : Nat) (rows : List (List V))
  | own (sz : Nat) (rows : List (List V))
  | ref (l sz s n c : Nat) (ex : Bool)
  | nili
  | iface (t : TypeId) (v : V)
  | nilf
  | fn (f : FuncId) (caps : List V)
  deriving Inhabited

/-- What may stand in one cell of memory. -/
def V.isCell : V → Bool
  | .undef | .agg _ | .tuple _ | .own _ _ => false
  | _ => true

def V.cells? : V → Option (List V)
  | .agg l => some l
  | .undef | .tuple _ | .own _ _ => none
  | v => some [v]

structure Blk where
  sz : Nat
  rows : List (List V)

structure Heap where
  blk : Nat → Option Blk
  next : Nat
  floor : Nat

def Heap.empty : Heap := ⟨fun _ => none, 0, 0⟩
def Heap.set (h : Heap) (l : Nat) (b : Blk) : Heap := ⟨fun x => if x = l then some b else h.blk x, h.next, h.floor⟩
def Heap.add (h : Heap) (b : Blk) : Heap := ⟨fun x => if x = h.next then some b else h.blk x, h.next + 1, h.floor⟩
def Heap.kill (h : Heap) (l : Nat) : Heap := ⟨fun x => if x = l then none else h.blk x, h.next, h.floor⟩

def M (α : Type) := Heap → Option (α × Heap)
def M.ret {α : Type} (a : α) : M α := fun h => some (a, h)
def M.bind {α β : Type} (m : M α) (f : α → M β) : M β := fun h => (m h).bind fun x => f x.1 x.2
def M.lift {α : Type} (o : Option α) : M α := fun h => o.bind fun a => some (a, h)
def M.fail {α : Type} : M α := fun _ => none

inductive Kind where
  | inl | pure | own | ext | exts | extm

structure Cfg where
  P : Program
  G : Nat → Option (List V)
  kind : FuncId → Kind
  X : FuncId → List V → Option V
  S : Nat → Bool := fun _ => false
  Z : Nat → Option Value := fun _ => none
  T : Nat → Option (Array Value) := fun _ => none
  Y : FuncId → List V → M V := fun _ _ => M.fail

/-! ### Operations -/

def cst : Value → V
  | .bool b => .bool b
  | .int k n => .int k n
  | .string s => .str s
  | .pointer none => .nilp
  | .slice none 0 0 => .nils
  | .nilIface => .nili
  | .nilFunc => .nilf
  | _ => .undef

def cstV : Value → V
  | .agg cs => if (cs.toList.map cst).all V.isCell then .agg (cs.toList.map cst) else .undef
  | v => cst v

def zeroC (P : Program) (t : TypeId) : Option (List V) := ((P.info? t).bind (·.zero)).bind fun z => (cstV z).cells?

abbrev Env := Nat → V

def glob (C : Cfg) (g : Nat) : V := match C.G g with | some row => .iptr row 0 | none => .undef

def ev (C : Cfg) (env : Env) : Operand → V
  | .tmp t => env t
  | .const v => cstV v
  | .global g => match C.G g with | some row => .iptr row 0 | none => .undef
  | .func f => .fn f []

def isAgg (P : Program) (t : TypeId) : Option Bool :=
  match P.underlying t with
  | some (.struct _) | some (.array _ _) => some true
  | some _ => some false
  | none => none

def placeV (p : V) (h : Heap) : Option (List V × Nat) :=
  match p with
  | .ptr l i o => (h.blk l).bind fun b => (b.rows[i]?).bind fun r => some (r, o)
  | .iptr r o => some (r, o)
  | _ => none

def load1 (p : V) : M V := fun h => (placeV p h).bind fun x => (x.1[x.2]?).bind fun v => some (v, h)
def loadN (n : Nat) (p : V) : M V := fun h => (placeV p h).bind fun x => if x.2 + n ≤ x.1.length then some (.agg ((x.1.drop x.2).take n), h) else none
def loadT (P : Program) (t : TypeId) (p : V) : M V :=
  match isAgg P t with
  | some true => loadN (P.cellsOf t) p
  | some false => load1 p
  | none => M.fail

def putRow (row : List V) (o : Nat) (cs : List V) : Option (List V) :=
  if o + cs.length ≤ row.length then some (row.take o ++ cs ++ row.drop (o + cs.length)) else none
def storeN (n : Nat) (p v : V) : M V := fun h =>
  match p with
  | .ptr l i o => if h.floor ≤ l then
      (v.cells?).bind fun cs => if cs.length = n then (h.blk l).bind fun b => (b.rows[i]?).bind fun r => (putRow r o cs).bind fun r' =>
        some (.undef, h.set l ⟨b.sz, b.rows.set i r'⟩) else none
    else none
  | _ => none

def newV (v : V) : M V := fun h => (v.cells?).bind fun cs => some (.ptr h.next 0 0, h.add ⟨cs.length, [cs]⟩)

def padd (n : Nat) : V → Option V
  | .ptr l i o => some (.ptr l i (o + n))
  | .iptr r o => some (.iptr r (o + n))
  | _ => none

def fill (cs : List V) : List (Nat × Nat × V) → Option (List V)
  | [] => some cs
  | (off, size, v) :: rest => (v.cells?).bind fun vs =>
      if vs.length = size then (putRow cs off vs).bind fun cs' => fill cs' rest else none
def buildV (zero : List V) (parts : List (Nat × Nat × V)) : Option V := (fill zero parts).bind fun l => some (.agg l)

def fillRows (sz : Nat) (rows : List (List V)) : List (Nat × V) → Option (List (List V))
  | [] => some rows
  | (i, v) :: rest => (v.cells?).bind fun vs => if vs.length = sz ∧ i < rows.length then fillRows sz (rows.set i vs) rest else none
def newRows (sz : Nat) (rows : List (List V)) (ex : Bool) : M V := fun h =>
  some (.ref h.next sz 0 rows.length rows.length ex, h.add ⟨sz, rows⟩)
def sliceV (sz len : Nat) (zero : List V) (parts : List (Nat × V)) : M V := fun h =>
  match len with
  | 0 => (match parts with | [] => some (.emp, h) | _ => none)
  | _ => (fillRows sz (List.replicate len zero) parts).bind fun rows => newRows sz rows true h

def nilCheckV : V → Option V
  | .ptr l i o => some (.ptr l i o)
  | .iptr r o => some (.iptr r o)
  | .ext k => some (.ext k)
  | .iface t v => some (.iface t v)
  | .fn f c => some (.fn f c)
  | _ => none

def idxV (sz : Nat) (x i : V) : Option V :=
  match x, i with
  | .ref l z s n _ _, .int _ k => if 0 ≤ k ∧ k < (n : Int) ∧ z = sz then some (.ptr l (s + k.toNat) 0) else none
  | .imm z rows, .int _ k => if 0 ≤ k ∧ z = sz then (rows[k.toNat]?).bind fun r => some (.iptr r 0) else none
  | _, _ => none
def aidxV (len sz : Nat) (x i : V) : Option V :=
  match i with
  | .int _ k => if 0 ≤ k ∧ k < (len : Int) then padd (k.toNat * sz) x else none
  | _ => none

inductive Sc where
  | bool | int | str
inductive EqT where
  | sc (k : Sc) | ptr | slice | iface | func | agg (ks : List Sc)

/-- The kinds of the cells of a type whose values are plain cells, one behind the other. -/
def plainFs (P : Program) (rec : TypeId → Option (List Sc)) : List Field → Nat → Nat → Option (List Sc)
  | [], off, tot => if off = tot then some [] else none
  | f :: fs, off, tot => if f.name = "_" ∨ f.offset ≠ off then none else (rec f.type).bind fun a => (plainFs P rec fs (off + P.cellsOf f.type) tot).bind fun b => some (a ++ b)
def plainTy (P : Program) : Nat → TypeId → Option (List Sc)
  | 0, _ => none
  | n + 1, t => match P.underlying t with
    | some .bool => if P.cellsOf t = 1 then some [.bool] else none
    | some (.int _) => if P.cellsOf t = 1 then some [.int] else none
    | some .string => if P.cellsOf t = 1 then some [.str] else none
    | some (.struct fs) => if P.stoodInHeld t = true then none else plainFs P (plainTy P n) fs.toList 0 (P.cellsOf t)
    | some (.array len e) => (plainTy P n e).bind fun a => if P.cellsOf t = len * P.cellsOf e ∧ a.length = P.cellsOf e then some (List.replicate len a).flatten else none
    | _ => none

def eqTy (P : Program) (t : TypeId) : Option EqT :=
  match P.underlying t with
  | some .bool => some (.sc .bool)
  | some (.int _) => some (.sc .int)
  | some .string => some (.sc .str)
  | some (.pointer _) => some .ptr
  | some (.slice _) => some .slice
  | some (.interface _) => some .iface
  | some (.func _ _ _) => some .func
  | some (.struct _) | some (.array _ _) => if P.eqGuardType P.depth t = true then none else (plainTy P 8 t).bind fun ks => some (.agg ks)
  | _ => none

/-- '==' of plain cells. -/
def eqC : Sc → V → V → Option Bool
  | .int, .int k a, .int k' b => if k = k' then some (a == b) else none
  | .bool, .bool a, .bool b => some (a == b)
  | .str, .str a, .str b => some (a.toList == b.toList)
  | _, _, _ => none
def eqCs : List Sc → List V → List V → Option Bool
  | [], [], [] => some true
  | k :: ks, a :: as, b :: bs => (eqC k a b).bind fun x => (eqCs ks as bs).bind fun y => some (x && y)
  | _, _, _ => none
def V.isNilS : V → Option Bool
  | .nils => some true
  | .emp | .imm _ _ | .ref _ _ _ _ _ _ => some false
  | _ => none

/-- c: one of the operands is a constant of the text. -/
def eqV (T : EqT) (c : Bool) (x y : V) : Option Bool :=
  match T with
  | .sc k => eqC k x y
  | .agg ks => match x, y with | .agg a, .agg b => eqCs ks a b | _, _ => none
  | .ptr => match x, y with
    | .nilp, .nilp => some true
    | .nilp, .ptr _ _ _ | .nilp, .iptr _ _ | .nilp, .ext _ | .ptr _ _ _, .nilp | .iptr _ _, .nilp | .ext _, .nilp => some false
    | _, _ => none
  | .slice => match x, y with
    | .nils, y => y.isNilS
    | x, .nils => x.isNilS
    | _, _ => none
  | .iface => match x, y with
    | .nili, .nili => if c then some true else none
    | .nili, .iface _ _ | .iface _ _, .nili => some false
    | _, _ => none
  | .func => match x, y with
    | .nilf, .nilf => some true
    | .nilf, .fn _ _ | .fn _ _, .nilf => some false
    | _, _ => none

def arithV (op : BinOp) (x y : V) : Option V :=
  match x, y with
  | .int k a, .int k' b =>
    match op with
    | .shl => if b < 0 then none else some (.int k (k.wrap (a * 2 ^ (min b.toNat k.bits))))
    | .shr => if b < 0 then none else some (.int k (a.fdiv (2 ^ (min b.toNat k.bits))))
    | .add => if k = k' then some (.int k (k.wrap (a + b))) else none
    | .sub => if k = k' then some (.int k (k.wrap (a - b))) else none
    | .mul => if k = k' then some (.int k (k.wrap (a * b))) else none
    | .quo => if k = k' ∧ b ≠ 0 then some (.int k (k.wrap (a.tdiv b))) else none
    | .rem => if k = k' ∧ b ≠ 0 then some (.int k (a.tmod b)) else none
    | .and => if k = k' then some (.int k (k.wrap (BitVec.ofInt k.bits a &&& BitVec.ofInt k.bits b).toNat)) else none
    | .or => if k = k' then some (.int k (k.wrap (BitVec.ofInt k.bits a ||| BitVec.ofInt k.bits b).toNat)) else none
    | .xor => if k = k' then some (.int k (k.wrap (BitVec.ofInt k.bits a ^^^ BitVec.ofInt k.bits b).toNat)) else none
    | .lss => if k = k' then some (.bool (a < b)) else none
    | .leq => if k = k' then some (.bool (a ≤ b)) else none
    | .gtr => if k = k' then some (.bool (a > b)) else none
    | .geq => if k = k' then some (.bool (a ≥ b)) else none
    | _ => none
  | .str a, .str b =>
    match op with
    | .add => if ((a.size + b.size : Nat) : Int) > IntKind.i64.max then none else some (.str (a ++ b))
    | .lss => some (.bool (Op.bytesLess a.toList b.toList))
    | _ => none
  | _, _ => none

def binV (P : Program) (op : BinOp) (t : TypeId) (c : Bool) (x y : V) : Option V :=
  match op with
  | .eql => match eqTy P t with
    | some T => (eqV T c x y).bind fun b => some (.bool b)
    | none => none
  | .neq => match eqTy P t with
    | some T => (eqV T c x y).bind fun b => some (.bool !b)
    | none => none
  | op => arithV op x y

def unV (op : UnOp) (x : V) : Option V :=
  match op, x with
  | .not, .bool b => some (.bool !b)
  | .neg, .int k n => some (.int k (k.wrap (0 - n)))
  | .xor, .int k n => some (.int k (k.wrap (BitVec.ofInt k.bits (if k.signed then -1 else k.max) ^^^ BitVec.ofInt k.bits n).toNat))
  | _, _ => none

def convI (k : IntKind) (x : V) : Option V := match x with | .int _ n => some (.int k (k.wrap n)) | _ => none
def convS (x : V) : Option V := match x with | .str s => some (.str s) | _ => none
def convV (P : Program) (src dst : TypeId) (x : V) : Option V :=
  match P.underlying src, P.underlying dst with
  | some _, some (.int k) => convI k x
  | some .string, some .string => convS x
  | _, _ => none

def ifaceV (t : TypeId) (x : V) : Option V := if x.isCell then some (.iface t x) else match x with | .agg l => some (.iface t (.agg l)) | _ => none

def natOf (x : V) : Option Nat := match x with | .int _ k => if 0 ≤ k then some k.toNat else none | _ => none
def optNat (x : Option V) (d : Nat) : Option Nat := match x with | some v => natOf v | none => some d

def slV (sz : Nat) (x : V) (lo hi mx : Option V) : Option V :=
  match x with
  | .ref l z s n c ex => (optNat lo 0).bind fun a => (optNat hi n).bind fun b =>
      if z = sz ∧ a ≤ b ∧ b ≤ n then
        match mx with
        | none => some (.ref l z (s + a) (b - a) (c - a) ex)
        | some m => (natOf m).bind fun m => if b ≤ m ∧ m ≤ c then some (if m = a then .emp else .ref l z (s + a) (b - a) (m - a) true) else none
      else none
  | .imm z rows => (optNat lo 0).bind fun a => (optNat hi rows.length).bind fun b =>
      if z = sz ∧ a ≤ b ∧ b ≤ rows.length then
        match mx with
        | none => some (.imm z ((rows.drop a).take (b - a)))
        | some m => (natOf m).bind fun m => if b ≤ m ∧ m ≤ rows.length then some (if m = a then .emp else .imm z ((rows.drop a).take (b - a))) else none
      else none
  | .nils => (optNat lo 0).bind fun a => (optNat hi 0).bind fun b => (optNat mx 0).bind fun m => if a = 0 ∧ b = 0 ∧ m = 0 then some .nils else none
  | .emp => (optNat lo 0).bind fun a => (optNat hi 0).bind fun b => (optNat mx 0).bind fun m => if a = 0 ∧ b = 0 ∧ m = 0 then some .emp else none
  | _ => none
def slS (x : V) (lo hi : Option V) : Option V :=
  match x with
  | .str s => (optNat lo 0).bind fun a => (optNat hi s.size).bind fun b => if a ≤ b ∧ b ≤ s.size then some (.str (s.extract a b)) else none
  | _ => none

def extractV (x : V) (i : Nat) : Option V := match x with | .tuple l => l[i]? | _ => none
def pickV (c a b : V) : Option V := match c with | .bool t => some (if t then a else b) | _ => none
def lenS (x : V) : Option V := match x with | .str s => some (.int .i64 s.size) | _ => none
def lenV (x : V) : Option V :=
  match x with
  | .nils | .emp => some (.int .i64 0)
  | .imm _ rows => some (.int .i64 rows.length)
  | .ref _ _ _ n _ _ => some (.int .i64 n)
  | _ => none
def indexS (x i : V) : Option V :=
  match x, i with
  | .str s, .int _ k => if 0 ≤ k then (s[k.toNat]?).bind fun b => some (.int .u8 b.toNat) else none
  | _, _ => none
def indexA (len sz : Nat) (ag : Bool) (x i : V) : Option V :=
  match x, i with
  | .agg cs, .int _ k => if 0 ≤ k ∧ k < (len : Int) then
      (if ag then (if k.toNat * sz + sz ≤ cs.length then some (.agg ((cs.drop (k.toNat * sz)).take sz)) else none) else cs[k.toNat * sz]?) else none
  | _, _ => none
def fieldV (off n : Nat) (ag : Bool) (x : V) : Option V :=
  match x with
  | .agg cs => if ag then (if off + n ≤ cs.length then some (.agg ((cs.drop off).take n)) else none) else cs[off]?
  | _ => none

/-- The rows that a slice shows. -/
def itemsV (sz : Nat) (x : V) : Heap → Option (List (List V)) := fun h =>
  match x with
  | .nils | .emp => some []
  | .imm z rows => if z = sz then some rows else none
  | .ref l z s n _ _ => if z = sz then (h.blk l).bind fun b => if s + n ≤ b.rows.length then some ((b.rows.drop s).take n) else none else none
  | .str s => if sz = 1 then some (s.data.toList.map fun b => [.int .u8 b.toNat]) else none
  | _ => none

def room : Nat := 140737488355328

/-- Bytes, and the rows that hold them. -/
def byteOf : List V → Option UInt8
  | [.int .u8 n] => some (UInt8.ofNat n.toNat)
  | _ => none
def bytesOf (rows : List (List V)) : Option ByteArray := (rows.mapM byteOf).map fun l => ⟨l.toArray⟩
def bytesRows (s : ByteArray) : List (List V) := s.data.toList.map fun b => [.int .u8 b.toNat]
def readBytes (x : V) : M V := fun h => match x with
  | .str _ => none
  | x => (itemsV 1 x h).bind fun rows => (bytesOf rows).bind fun b => some (.str b, h)
def isByte (P : Program) (t : TypeId) : Bool := match P.underlying t with | some (.int .u8) => true | _ => false

/-- append of rows. -/
def appR (sz bytes : Nat) (x : V) (items : List (List V)) : M V := fun h =>
  match x with
  | .nils => match items with
    | [] => some (.nils, h)
    | items => if items.length * bytes ≤ room then newRows sz items false h else none
  | .emp => match items with
    | [] => some (.emp, h)
    | items => if items.length * bytes ≤ room then newRows sz items false h else none
  | .imm z rows => if items = [] then some (.imm z rows, h) else none
  | .ref l z s n c ex => match items with
    | [] => some (.ref l z s n c ex, h)
    | items => if z = sz then (h.blk l).bind fun b => if s + n ≤ b.rows.length then
        (if n + items.length ≤ c then
          (if h.floor ≤ l then some (.ref l z s (n + items.length) c ex, h.set l ⟨b.sz, b.rows.take (s + n) ++ items ++ b.rows.drop (s + n + items.length)⟩) else none)
        else if (n + items.length) * bytes ≤ room then
          (if ex then newRows sz ((b.rows.drop s).take n ++ items) false h
          else if h.floor ≤ l then newRows sz ((b.rows.drop s).take n ++ items) false (h.kill l) else none)
        else none) else none else none
  | _ => none
def appV (sz bytes : Nat) (x y : V) : M V := fun h => (itemsV sz y h).bind fun items => appR sz bytes x items h

def copyV (sz : Nat) (x y : V) : M V := fun h =>
  (itemsV sz y h).bind fun items =>
    match x with
    | .nils | .emp => some (.int .i64 0, h)
    | .ref l z s n _ _ => if z = sz ∧ h.floor ≤ l then (h.blk l).bind fun b => if s + n ≤ b.rows.length then
        some (.int .i64 ((min items.length n : Nat) : Int), h.set l ⟨b.sz, b.rows.take s ++ items.take (min items.length n) ++ b.rows.drop (s + min items.length n)⟩) else none else none
    | _ => none
def clearV (sz : Nat) (zero : List V) (x : V) : M V := fun h =>
  match x with
  | .nils | .emp => some (.tuple [], h)
  | .ref l z s n _ _ => if z = sz ∧ h.floor ≤ l then (h.blk l).bind fun b => if s + n ≤ b.rows.length then
      some (.tuple [], h.set l ⟨b.sz, b.rows.take s ++ List.replicate n zero ++ b.rows.drop (s + n)⟩) else none else none
  | _ => none
def newCap (sz n : Nat) (rows : List (List V)) : M V := fun h =>
  some (.ref h.next sz 0 n rows.length true, h.add ⟨sz, rows⟩)
def makeV (sz bytes : Nat) (zero : List V) (n c : V) : M V := fun h =>
  (natOf n).bind fun n => (natOf c).bind fun c => if n ≤ c ∧ c * bytes ≤ room ∧ c ≤ room then
    (match c with | 0 => some (.emp, h) | c => newCap sz n (List.replicate c zero) h) else none

def isIface (P : Program) (t : TypeId) : Bool := match P.underlying t with | some (.interface _) => true | none => true | _ => false
def isConst : Operand → Bool | .const _ => true | _ => false

def elemOf (P : Program) (t : TypeId) : Option TypeId := match P.underlying t with | some (.slice e) => some e | _ => none

def memConv (P : Program) : Op → Bool
  | .convert s d _ => match P.underlying s, P.underlying d with | some (.slice _), some .string => true | _, _ => false
  | _ => false
def convM (P : Program) (s d : TypeId) (x : V) : M V :=
  match P.underlying s, P.underlying d with
  | some (.slice el), some .string => if isByte P el then readBytes x else M.fail
  | some .string, some (.slice el) => if isByte P el then (match x with | .str b => newRows 1 (bytesRows b) false | _ => M.fail) else M.fail
  | _, _ => M.lift (convV P s d x)

/-- One operation that is no call of a function. -/
def opV (C : Cfg) (e : Operand → V) : Op → M V
  | .move x | .assign x => M.ret (e x)
  | .pick c a b => M.lift (pickV (e c) (e a) (e b))
  | .alloc t => match zeroC C.P t with
    | some z => newV (.agg z)
    | none => M.fail
  | .box _ x => newV (e x)
  | .build t parts => match C.P.underlying t, zeroC C.P t with
    | some (.struct fs), some z => if (fs.toList.all fun f => (C.P.info? f.type).isSome) = false then M.fail else match parts.toList.mapM fun p => (fs[p.1]?).map fun f => (f.offset, C.P.cellsOf f.type, e p.2) with
      | some ps => M.lift (buildV z ps)
      | none => M.fail
    | some (.array _ el), some z => if (C.P.info? el).isSome = false then M.fail else M.lift (buildV z (parts.toList.map fun p => (p.1 * C.P.cellsOf el, C.P.cellsOf el, e p.2)))
    | _, _ => M.fail
  | .buildSlice t len parts => match elemOf C.P t with
    | some el => match zeroC C.P el with
      | some z => if 0 < C.P.cellsOf el ∧ z.length = C.P.cellsOf el ∧ len * C.P.cellsOf el ≤ 16777216 then sliceV (C.P.cellsOf el) len z (parts.toList.map fun p => (p.1, e p.2)) else M.fail
      | none => M.fail
    | none => M.fail
  | .load t p => loadT C.P t (e p)
  | .store t p x => if 0 < C.P.cellsOf t then storeN (C.P.cellsOf t) (e p) (e x) else M.fail
  | .nilCheck x => M.lift (nilCheckV (e x))
  | .binOp op t x y _ => M.lift (binV C.P op t (isConst x || isConst y) (e x) (e y))
  | .unOp op _ x => M.lift (unV op (e x))
  | .convert s d x => convM C.P s d (e x)
  | .makeInterface t x => if isIface C.P t then M.fail else M.lift (ifaceV t (e x))
  | .makeFunc (.func f) first caps => if first.size = 0 then M.ret (.fn f (caps.toList.map e)) else M.fail
  | .makeSlice t n c => match elemOf C.P t with
    | some el => match zeroC C.P el with
      | some z => if 0 < C.P.cellsOf el ∧ z.length = C.P.cellsOf el then makeV (C.P.cellsOf el) (C.P.bytesOf el) z (e n) (e c) else M.fail
      | none => M.fail
    | none => M.fail
  | .slice t x lo hi mx => match C.P.underlying t with
    | some .string => if mx.isSome then M.fail else M.lift (slS (e x) (lo.map e) (hi.map e))
    | some (.slice el) => if 0 < C.P.cellsOf el ∧ (mx.isSome && !hi.isSome) = false then M.lift (slV (C.P.cellsOf el) (e x) (lo.map e) (hi.map e) (mx.map e)) else M.fail
    | _ => M.fail
  | .fieldAddr s x f => match C.P.underlying s with
    | some (.struct fs) => match fs[f]? with
      | some fd => if C.P.cellsOf fd.type = 0 then M.fail else M.lift (padd fd.offset (e x))
      | none => M.fail
    | _ => M.fail
  | .field t x f => match C.P.underlying t with
    | some (.struct fs) => match fs[f]? with
      | some fd => match isAgg C.P fd.type with
        | some ag => M.lift (fieldV fd.offset (C.P.cellsOf fd.type) ag (e x))
        | none => M.fail
      | none => M.fail
    | _ => M.fail
  | .indexAddr t x i => match C.P.underlying t with
    | some (.slice el) => if 0 < C.P.cellsOf el then M.lift (idxV (C.P.cellsOf el) (e x) (e i)) else M.fail
    | some (.array n el) => if 0 < C.P.cellsOf el then M.lift (aidxV n (C.P.cellsOf el) (e x) (e i)) else M.fail
    | _ => M.fail
  | .index t x i => match C.P.underlying t with
    | some .string => M.lift (indexS (e x) (e i))
    | some (.array n el) => match isAgg C.P el with
      | some ag => M.lift (indexA n (C.P.cellsOf el) ag (e x) (e i))
      | none => M.fail
    | _ => M.fail
  | .extract x i => M.lift (extractV (e x) i)
  | _ => M.fail

def maxV (x y : V) : Option V := match x, y with | .int k a, .int _ b => some (.int k (if b > a then b else a)) | _, _ => none
def minV (x y : V) : Option V := match x, y with | .int k a, .int _ b => some (.int k (if b < a then b else a)) | _, _ => none

def builtinV (C : Cfg) (b : Builtin) (ats : Array TypeId) (args : List V) : M V :=
  match b, args with
  | .len, [x] => match (ats[0]?).bind C.P.underlying with
    | some .string => M.lift (lenS x)
    | some (.slice _) => M.lift (lenV x)
    | some (.array n _) => M.ret (.int .i64 n)
    | _ => M.fail
  | .append, [x, y] => match (ats[0]?).bind (elemOf C.P), (ats[1]?).bind C.P.underlying with
    | some el, some (.slice _) | some el, some .string => if 0 < C.P.cellsOf el ∧ (zeroC C.P el).map List.length = some (C.P.cellsOf el) ∧ 0 < C.P.bytesOf el then appV (C.P.cellsOf el) (C.P.bytesOf el) x y else M.fail
    | _, _ => M.fail
  | .copy, [x, y] => match (ats[0]?).bind (elemOf C.P) with
    | some el => if 0 < C.P.cellsOf el then copyV (C.P.cellsOf el) x y else M.fail
    | none => M.fail
  | .clear, [x] => match (ats[0]?).bind (elemOf C.P) with
    | some el => match zeroC C.P el with
      | some z => if 0 < C.P.cellsOf el ∧ z.length = C.P.cellsOf el then clearV (C.P.cellsOf el) z x else M.fail
      | none => M.fail
    | none => M.fail
  | .max, [x, y] => M.lift (maxV x y)
  | .min, [x, y] => M.lift (minV x y)
  | _, _ => M.fail

/-! ### Calls of functions -/

/-- Does the value lead into the heap? -/
def V.flat : V → Bool
  | .bool _ | .int _ _ | .str _ | .nilp | .nils | .emp | .nili | .nilf | .ext _ => true
  | .iface _ (.ext _) => true
  | _ => false
/-- A value that holds no place of the heap. -/
def V.closed : V → Bool
  | .imm _ _ | .iptr _ _ => true
  | .iface _ (.iptr _ _) => true
  | v => v.flat

def V.closedV : V → Bool
  | .agg l => l.all V.closed
  | v => v.closed

def flatRows (rows : List (List V)) : Bool := rows.all fun r => r.all V.flat

/-- A cell as who only reads it sees it; 'ok': memory that nobody writes may be shown. -/
def thaw (ok : Bool) (h : Heap) (v : V) : Option V :=
  match v with
  | .ref l z s n _ _ => (h.blk l).bind fun b => if s + n ≤ b.rows.length ∧ flatRows ((b.rows.drop s).take n) then some (.imm z ((b.rows.drop s).take n)) else none
  | .ptr l i o => (h.blk l).bind fun b => (b.rows[i]?).bind fun r => if r.all V.flat then some (.iptr r o) else none
  | .iface t (.ptr l i o) => (h.blk l).bind fun b => (b.rows[i]?).bind fun r => if r.all V.flat then some (.iface t (.iptr r o)) else none
  | v => if v.flat || (ok && v.closed) then some v else none
def thaw2 (ok : Bool) (h : Heap) (v : V) : Option V :=
  match v with
  | .agg l => (l.mapM (thaw ok h)).bind fun l' => some (.agg l')
  | v => thaw ok h v
def thawV (ok : Bool) (h : Heap) (v : V) : Option V :=
  match v with
  | .agg l => (l.mapM (thaw ok h)).bind fun l' => some (.agg l')
  | .tuple l => (l.mapM (thaw2 ok h)).bind fun l' => some (.tuple l')
  | v => thaw ok h v

/-- A cell as it is handed over to be written: slices with memory of their own. 'ls': what has been handed over already. -/
def give (h : Heap) (v : V) (ls : List Nat) : Option (V × List Nat) :=
  match v with
  | .ref l z s n _ _ => (h.blk l).bind fun b => if s + n ≤ b.rows.length ∧ flatRows ((b.rows.drop s).take n) ∧ l ∉ ls then some (.own z ((b.rows.drop s).take n), l :: ls) else none
  | v => if v.flat then some (v, ls) else none
def gives (h : Heap) : List V → List Nat → Option (List V × List Nat)
  | [], ls => some ([], ls)
  | v :: vs, ls => (give h v ls).bind fun x => (gives h vs x.2).bind fun y => some (x.1 :: y.1, y.2)
def give2 (h : Heap) (v : V) (ls : List Nat) : Option (V × List Nat) :=
  match v with
  | .agg l => (gives h l ls).bind fun x => some (.agg x.1, x.2)
  | v => give h v ls
def gives2 (h : Heap) : List V → List Nat → Option (List V × List Nat)
  | [], ls => some ([], ls)
  | v :: vs, ls => (give2 h v ls).bind fun x => (gives2 h vs x.2).bind fun y => some (x.1 :: y.1, y.2)
def giveV (h : Heap) (v : V) : Option V :=
  match v with
  | .tuple l => (gives2 h l []).bind fun x => some (.tuple x.1)
  | v => (give2 h v []).bind fun x => some x.1

def take1 (v : V) : M V := fun h => match v with
  | .own z rows => newRows z rows false h
  | v => some (v, h)
def takes : List V → M (List V)
  | [] => M.ret []
  | v :: vs => (take1 v).bind fun v' => (takes vs).bind fun vs' => M.ret (v' :: vs')
def take2 (v : V) : M V := match v with
  | .agg l => (takes l).bind fun l' => M.ret (.agg l')
  | v => take1 v
def takes2 : List V → M (List V)
  | [] => M.ret []
  | v :: vs => (take2 v).bind fun v' => (takes2 vs).bind fun vs' => M.ret (v' :: vs')
def takeV (v : V) : M V := match v with
  | .tuple l => (takes2 l).bind fun l' => M.ret (.tuple l')
  | v => take2 v

/-- A call that sees only what its arguments show, and hands back new memory. -/
def callP (own : Bool) (call : List V → M V) (args : List V) : M V := fun h =>
  (args.mapM (thawV true h)).bind fun as => (call as Heap.empty).bind fun r =>
    if own then (giveV r.2 r.1).bind fun v => takeV v h
    else (thawV (args.all V.closedV) r.2 r.1).bind fun v => some (v, h)

def callV (C : Cfg) (call : FuncId → List V → M V) (f : FuncId) (args : List V) : M V :=
  match C.kind f with
  | .inl => call f args
  | .pure => callP false (call f) args
  | .own => callP true (call f) args
  | .ext => M.lift (C.X f args)
  | .exts => callP false (fun as => M.lift (C.X f as)) args
  | .extm => C.Y f args

def callFn (C : Cfg) (call : FuncId → List V → M V) (f : V) (args : List V) : M V :=
  match f with
  | .fn f caps => callV C call f (args ++ caps)
  | _ => M.fail

def stepV (C : Cfg) (call : FuncId → List V → M V) (e : Operand → V) : Op → M V
  | .call c => match c.callee with
    | .builtin b => builtinV C b c.argTypes (c.args.toList.map e)
    | .value f => callFn C call (e f) (c.args.toList.map e)
    | .invoke _ _ => M.fail
  | op => opV C e op

/-! ### Code -/

inductive Ex where
  | normal
  | exit (id : Nat)
  | ret

def put (env : Env) (d : Option Tmp) (v : V) : Env :=
  match d with
  | some d => fun t => if t = d then v else env t
  | none => env

def guardV (v : V) (want : Bool) (m : M V) : M V :=
  match v with
  | .bool b => if b = want then m else M.ret (.tuple [])
  | .tuple _ => M.ret (.tuple [])
  | _ => M.fail

abbrev R := Ex × List V

def guarded (C : Cfg) (call : FuncId → List V → M V) (ops : Array Oper) (env : Env) (o : Oper) : M V :=
  match o.guard with
  | none => stepV C call (ev C env) o.op
  | some (j, want) => match (ops[j]?).bind (·.dst) with
    | some d => guardV (env d) want (stepV C call (ev C env) o.op)
    | none => M.fail

noncomputable def runOps (C : Cfg) (call : FuncId → List V → M V) (ops : Array Oper) (l : List Oper) : Env → (Env → M R) → M R :=
  List.rec (motive := fun _ => Env → (Env → M R) → M R) (fun env K => K env)
    (fun o _ ih env K => (guarded C call ops env o).bind fun v => ih (put env o.dst v) K) l

def condV {α : Type} (v : V) (a b : M α) : M α :=
  match v with
  | .bool t => if t then a else b
  | _ => M.fail

def iter (F : List V → M R) : Nat → List V → M R
  | 0 => fun _ => M.fail
  | n + 1 => fun s => (F s).bind fun r => match r.1 with
    | .normal => iter F n r.2
    | _ => M.ret r
open Classical in
noncomputable def loopV (F : List V → M R) (s : List V) : M R := fun h =>
  if hx : ∃ n r, iter F n s h = some r then some hx.choose_spec.choose else none

def dsts (ops : Array Oper) : List Nat := ops.toList.filterMap (·.dst)
def allDsts : Code → List Nat
  | .region _ ops _ => dsts ops
  | .seq a b => allDsts a ++ allDsts b
  | .cond _ a b => allDsts a ++ allDsts b
  | .block _ c => allDsts c
  | .loop c => allDsts c
  | .scope c => allDsts c
  | .rangeFunc _ _ a b => allDsts a ++ allDsts b
  | _ => []
def tmpsOf (xs : Array Operand) : List Nat := xs.toList.filterMap fun | .tmp t => some t | _ => none
def readsOp (ops : Array Oper) (o : Oper) : List Nat :=
  tmpsOf o.op.operands ++ (match o.guard with | some (j, _) => ((ops[j]?).bind (·.dst)).toList | none => [])
def readsC : Operand → List Nat
  | .tmp t => [t]
  | _ => []
/-- The slots that code reads, each as often as it is read. -/
def reads : Code → List Nat
  | .region _ ops _ => ops.toList.flatMap (readsOp ops)
  | .seq a b => reads a ++ reads b
  | .cond o a b => readsC o ++ (reads a ++ reads b)
  | .block _ c => reads c
  | .loop c => reads c
  | _ => []
def exposedOps (ops : Array Oper) : List Oper → List Nat → List Nat → List Nat × List Nat
  | [], E, W => (E, W)
  | o :: l, E, W => exposedOps ops l (E ++ (readsOp ops o).filter fun t => !W.contains t) (W ++ o.dst.toList)
/-- The slots that code reads ahead of writing them; and those that it has written. -/
def exposed : Code → List Nat → List Nat × List Nat
  | .region _ ops _, W => exposedOps ops ops.toList [] W
  | .seq a b, W => ((exposed a W).1 ++ (exposed b (exposed a W).2).1, (exposed b (exposed a W).2).2)
  | .cond o a b, W => ((readsC o).filter (fun t => !W.contains t) ++ ((exposed a W).1 ++ (exposed b W).1), W)
  | .block _ c, W => ((exposed c W).1, W)
  | .loop c, W => ((exposed c W).1, W)
  | _, W => ([], W)

def findIdx (t : Nat) : List Nat → Nat → Option Nat
  | [], _ => none
  | d :: ds, k => if t = d then some k else findIdx t ds (k + 1)
def restore (env : Env) (ds as : List Nat) (s : List V) : Env := fun t =>
  match findIdx t ds 0 with
  | some k => s.getD k .undef
  | none => if as.contains t then .undef else env t

def dedup : List Nat → List Nat
  | [] => []
  | d :: ds => if ds.contains d then dedup ds else d :: dedup ds
/-- What one round of a loop hands to the next, and to what follows; 'T': the reads of the whole function. -/
def carried (T : List Nat) (c : Code) : List Nat :=
  (dedup (allDsts c)).filter fun t => (exposed c []).1.contains t || !(T.count t == (reads c).count t)


/-! ### A region whose order is open -/

def befOf (ops : Array Oper) : Array Nat :=
  ops.foldl (init := #[]) fun acc o =>
    acc.push (o.after.foldl (fun s e => if Region.binds .any e then s ||| 2 ^ e.on ||| acc.getD e.on 0 else s) 0)

def isQ : Op → Bool
  | .call c => match c.callee with | .builtin .append | .value _ => true | _ => false
  | _ => false
def isS : Op → Bool
  | .store .. => true
  | _ => false
def isL : Op → Bool
  | .load .. => true
  | _ => false
def okOp : Op → Bool
  | .call c => match c.callee with | .builtin .append | .builtin .len | .builtin .max | .builtin .min | .value _ => true | _ => false
  | _ => true
/-- The slots at which an operation looks, and the one that it writes. -/
def touches (ops : Array Oper) (o : Oper) : List Nat :=
  o.dst.toList ++ tmpsOf o.op.operands ++ (match o.guard with | some (j, _) => ((ops[j]?).bind (·.dst)).toList | none => [])
def clash (ops : Array Oper) (a b : Oper) : Bool :=
  (isS a.op && (isS b.op || isQ b.op)) || (isQ a.op && isS b.op) ||
  (match a.dst with | some d => (touches ops b).contains d | none => false) || (match b.dst with | some d => (touches ops a).contains d | none => false)
/-- Which come before, by the edges that bind. -/
def bef (ops : Array Oper) (j i : Nat) : Bool := ((befOf ops).getD j 0).testBit i
def orderOk (ops : Array Oper) : Bool :=
  (ops.toList.zipIdx.all fun x => okOp x.1.op && x.1.after.toList.all fun e => !Region.binds .any e || decide (e.on < x.2)) &&
  (ops.toList.zipIdx.all fun y => ops.toList.zipIdx.all fun x => !(decide (x.2 < y.2)) || !clash ops x.1 y.1 || bef ops y.2 x.2)
/-- Loads and stores whose order is open: they must be at different blocks. -/
def conf (ops : Array Oper) (j : Nat) : List Nat :=
  (List.range j).filter fun i => match ops[i]?, ops[j]? with
    | some a, some b => ((isS a.op && isL b.op) || (isL a.op && isS b.op)) && !bef ops j i
    | _, _ => false
def ptrOf (C : Cfg) (env : Env) : Op → V
  | .load _ p => ev C env p
  | .store _ p _ => ev C env p
  | _ => .undef
def apartV : V → V → Bool
  | .ptr l _ _, .ptr l' _ _ => decide (l ≠ l')
  | _, _ => true
def ptrAt : List (Nat × Nat × Nat × V) → Nat → V
  | [], _ => .undef
  | b :: bs, i => if b.1 = i then b.2.2.2 else ptrAt bs i
def vis (ops : Array Oper) (n0 : Nat) (bs : List (Nat × Nat × Nat × V)) (i l : Nat) : Bool :=
  decide (l < n0) || bs.any fun b => decide (b.2.1 ≤ l) && decide (l < b.2.2.1) && bef ops i b.1
def visB (n0 : Nat) (bs : List (Nat × Nat × Bool)) (l : Nat) : Bool := decide (l < n0) || bs.any fun b => decide (b.1 ≤ l) && decide (l < b.2.1) && b.2.2
def qrun (v : Nat → Bool) (m : M V) : M V := fun h =>
  (m ⟨fun l => if v l then h.blk l else none, h.next, h.next⟩).bind fun r =>
    some (r.1, ⟨fun l => if l < h.next then h.blk l else r.2.blk l, r.2.next, h.floor⟩)
def tOp (C : Cfg) : Op → Bool
  | .call c => match c.callee with
    | .builtin .append => true
    | .value (.func f) => match C.kind f with | .inl => true | _ => false
    | _ => false
  | _ => false
/-- Does every operation that looks at memory stand before this one, or behind it? Then it may change what it sees. -/
def isT (C : Cfg) (ops : Array Oper) (i : Nat) : Bool :=
  match ops[i]? with
  | some o => tOp C o.op && (List.range ops.size).all fun k => k == i || (match ops[k]? with | some o' => !(isQ o'.op || isS o'.op || isL o'.op) | none => true) || bef ops i k || bef ops k i
  | none => false
def trun (v : Nat → Bool) (m : M V) : M V := fun h =>
  (m ⟨fun l => if v l then h.blk l else none, h.next, h.floor⟩).bind fun r =>
    some (r.1, ⟨fun l => if l < h.next then (if v l && decide (h.floor ≤ l) && (h.blk l).isSome then r.2.blk l else h.blk l) else r.2.blk l, r.2.next, h.floor⟩)
def stepD (C : Cfg) (call : FuncId → List V → M V) (ops : Array Oper) (n0 i : Nat) (bs : List (Nat × Nat × Nat × V)) (env : Env) (o : Oper) : M V :=
  if isT C ops i then trun (vis ops n0 bs i) (guarded C call ops env o)
  else if isQ o.op then qrun (vis ops n0 bs i) (guarded C call ops env o) else if memConv C.P o.op then M.fail else guarded C call ops env o
noncomputable def runDrawn (C : Cfg) (call : FuncId → List V → M V) (ops : Array Oper) (n0 : Nat) (l : List Oper) : Nat → List (Nat × Nat × Nat × V) → Env → (Env → M R) → M R :=
  List.rec (motive := fun _ => Nat → List (Nat × Nat × Nat × V) → Env → (Env → M R) → M R) (fun _ _ env K => K env)
    (fun o _ ih i bs env K => fun h =>
      if (conf ops i).all fun k => apartV (ptrAt bs k) (ptrOf C env o.op) then
        (stepD C call ops n0 i bs env o h).bind fun x => ih (i + 1) ((i, h.next, x.2.next, ptrOf C env o.op) :: bs) (put env o.dst x.1) K x.2
      else none) l

def onNormal (K1 : Env → M R) (K : Ex → Env → M R) (e : Ex) (env : Env) : M R :=
  match e with
  | .normal => K1 env
  | .exit j => K (.exit j) env
  | .ret => K .ret env
def onBlock (id : Nat) (K : Ex → Env → M R) (e : Ex) (env : Env) : M R :=
  match e with
  | .normal => K .normal env
  | .exit j => if j = id then K .normal env else K (.exit j) env
  | .ret => K .ret env
def onLoop (K : Ex → Env → M R) (env : Env) (ds as : List Nat) (r : R) : M R :=
  match r.1 with
  | .normal => M.fail
  | .exit j => K (.exit j) (restore env ds as r.2)
  | .ret => K .ret (restore env ds as r.2)

noncomputable def runK (C : Cfg) (call : FuncId → List V → M V) (T : List Nat) (c : Code) : Env → (Ex → Env → M R) → M R :=
  Code.rec (motive := fun _ => Env → (Ex → Env → M R) → M R)
    (fun env K => K .normal env)
    (fun _ ops draw env K => match draw with
      | false => runOps C call ops ops.toList env (K .normal)
      | true => if orderOk ops then fun h => runDrawn C call ops h.next ops.toList 0 [] env (K .normal) h else M.fail)
    (fun _ _ ra rb env K => ra env (onNormal (fun env' => rb env' K) K))
    (fun c _ _ ra rb env K => condV (ev C env c) (ra env K) (rb env K))
    (fun id _ rc env K => rc env (onBlock id K))
    (fun c rc env K => (loopV (fun s => rc (restore env (carried T c) (allDsts c) s) fun e env' => M.ret (e, (carried T c).map env')) ((carried T c).map env)).bind
      (onLoop K env (carried T c) (allDsts c)))
    (fun _ _ _ _ _ _ _ _ => M.fail)
    (fun id env K => K (.exit id) env)
    (fun _ _ _ _ => M.fail)
    (fun _ env K => K .normal env)
    (fun _ _ _ => M.fail)
    (fun env K => K .ret env)
    (fun _ _ _ => M.fail)
    c

def resV (P : Program) (env : Env) : List ResultVar → M (List V)
  | [] => M.ret []
  | .tmp t :: rs => (resV P env rs).bind fun l => M.ret (env t :: l)
  | .cell a t :: rs => (loadT P t (env a)).bind fun v => (resV P env rs).bind fun l => M.ret (v :: l)
def tupV : List V → List V
  | [v] => [v]
  | l => [.tuple l]
def finish (P : Program) (fn : Func) (e : Ex) (env : Env) : M R :=
  match e with
  | .exit _ => M.fail
  | _ => (resV P env fn.results.toList).bind fun l => M.ret (.ret, tupV l)

def okFn (fn : Func) (c : Code) : Bool := decide (fn.results.size ≤ 3) && (allDsts c).all fun d => decide (d < fn.ntmps)

def outV (m : M R) : M V := m.bind fun r => M.ret (r.2.getD 0 .undef)
noncomputable def bodyV (C : Cfg) (call : FuncId → List V → M V) (fn : Func) (c : Code) (args : List V) : M V :=
  if okFn fn c then (runK C call (reads c ++ fn.results.toList.map fun | .tmp t => t | .cell a _ => a) c (fun t => args.getD t .undef) (finish C.P fn)).bind fun r => M.ret (r.2.getD 0 .undef) else M.fail
noncomputable def fnV (C : Cfg) (call : FuncId → List V → M V) (f : FuncId) (args : List V) : M V :=
  match C.P.funcs[f]? with
  | some fn => match fn.body with
    | some c => if fn.name = "runtime.NumGoroutine" then M.fail else bodyV C call fn c args
    | none => M.fail
  | none => M.fail

noncomputable def sem (C : Cfg) : Nat → FuncId → List V → M V
  | 0 => fun _ _ => M.fail
  | n + 1 => fun f args => fnV C (sem C n) f args

end Go.Fv

/-! How the plain values stand to the model's values in a world. -/
namespace Go.Fv
open Go

structure Ctx where
  I : Nat → Prop
  ρ : Nat → Nat × Nat × Nat
  nx : Nat
  D : Nat → Prop

def roomAt (w : World) (b need : Nat) : Prop := ∃ cs e f, w.heap[b]? = some (Obj.cells cs e f) ∧ need ≤ cs.size

inductive Rel (σ : Nat → Addr) (K : Ctx) (w : World) : V → Value → Prop
  | undef (x : Value) : Rel σ K w .undef x
  | bool (b : Bool) : Rel σ K w (.bool b) (.bool b)
  | int (k : IntKind) (n : Int) : Rel σ K w (.int k n) (.int k n)
  | str (s : ByteArray) : Rel σ K w (.str s) (.string s)
  | agg (l : List V) (cs : Array Value) (hl : l.length = cs.size) (hc : ∀ a ∈ l, a.isCell = true)
      (h : ∀ (i : Nat) a b, l[i]? = some a → cs[i]? = some b → Rel σ K w a b) : Rel σ K w (.agg l) (.agg cs)
  | tuple (l : List V) (cs : Array Value) (hl : l.length = cs.size)
      (h : ∀ (i : Nat) a b, l[i]? = some a → cs[i]? = some b → Rel σ K w a b) : Rel σ K w (.tuple l) (.tuple cs)
  | nilp : Rel σ K w .nilp (.pointer none)
  | ptr (l i o b off sz : Nat) (hl : K.D l) (hρ : K.ρ l = (b, off, sz)) : Rel σ K w (.ptr l i o) (.pointer (some ⟨b, off + i * sz + o, none⟩))
  | iptr (row : List V) (o b off : Nat) (val : Nat → Value) (hI : K.I b) (hc : ∀ c ∈ row, c.closed = true)
      (hw : ∀ (j : Nat) c, row[j]? = some c → w.cell? ⟨b, off + j, none⟩ = some (val j))
      (h : ∀ (j : Nat) c, row[j]? = some c → Rel σ K w c (val j)) : Rel σ K w (.iptr row o) (.pointer (some ⟨b, off + o, none⟩))
  | ext (k : Nat) : Rel σ K w (.ext k) (.pointer (some (σ k)))
  | nils : Rel σ K w .nils (.slice none 0 0)
  | emp (a : Addr) : Rel σ K w .emp (.slice (some a) 0 0)
  | imm0 (sz : Nat) (a : Addr) (cap : Nat) : Rel σ K w (.imm sz []) (.slice (some a) 0 cap)
  | imm (sz : Nat) (rows : List (List V)) (b off cap : Nat) (val : Nat → Nat → Value) (hI : K.I b) (hcap : rows.length ≤ cap)
      (hs : ∀ r ∈ rows, r.length = sz) (hc : ∀ r ∈ rows, ∀ c ∈ r, c.closed = true)
      (hw : ∀ (i : Nat) r (j : Nat) c, rows[i]? = some r → r[j]? = some c → w.cell? ⟨b, off + i * sz + j, none⟩ = some (val i j))
      (h : ∀ (i : Nat) r (j : Nat) c, rows[i]? = some r → r[j]? = some c → Rel σ K w c (val i j)) :
      Rel σ K w (.imm sz rows) (.slice (some ⟨b, off, none⟩) rows.length cap)
  | ref (l sz s n c : Nat) (ex : Bool) (a : Addr) (cap b off : Nat) (hl : K.D l) (hρ : K.ρ l = (b, off, sz)) (hn : n ≤ c) (hc : c ≤ cap) (hex : ex = true → cap = c)
      (ha : 0 < cap → a = ⟨b, off + s * sz, none⟩ ∧ roomAt w b (off + (s + cap) * sz)) : Rel σ K w (.ref l sz s n c ex) (.slice (some a) n cap)
  | nili : Rel σ K w .nili .nilIface
  | iface (t : TypeId) (v : V) (x : Value) (hc : v.cells?.isSome = true) (h : Rel σ K w v x) : Rel σ K w (.iface t v) (.iface t x)
  | nilf : Rel σ K w .nilf .nilFunc
  | fn (f : FuncId) (caps : List V) (cs : Array Value) (hl : caps.length = cs.size)
      (h : ∀ (i : Nat) a b, caps[i]? = some a → cs[i]? = some b → Rel σ K w a b) : Rel σ K w (.fn f caps) (.func (.func f) #[] cs)

structure Moves (K K' : Ctx) (w w' : World) : Prop where
  I : ∀ b, K.I b → K'.I b
  ρ : ∀ l, K.D l → K'.ρ l = K.ρ l
  D : ∀ l, K.D l → K'.D l
  same : ∀ (b : Nat), K.I b → w'.heap[b]? = w.heap[b]?
  shape : ∀ (b : Nat) (cs : Array Value) (e : TypeId) (f : Nat × Nat), w.heap[b]? = some (Obj.cells cs e f) → ∃ cs' f', w'.heap[b]? = some (Obj.cells cs' e f') ∧ cs'.size = cs.size

theorem cell?_same {w w' : World} {b o : Nat} (h : w'.heap[b]? = w.heap[b]?) : w'.cell? ⟨b, o, none⟩ = w.cell? ⟨b, o, none⟩ := by
  simp [World.cell?, h]

theorem roomAt.mono {w w' : World} {b n : Nat} (h : roomAt w b n) (hs : ∀ (b : Nat) (cs : Array Value) (e : TypeId) (f : Nat × Nat), w.heap[b]? = some (Obj.cells cs e f) → ∃ cs' f', w'.heap[b]? = some (Obj.cells cs' e f') ∧ cs'.size = cs.size) : roomAt w' b n := by
  obtain ⟨cs, e, f, hh, hn⟩ := h
  obtain ⟨cs', f', hh', hs'⟩ := hs _ _ _ _ hh
  exact ⟨cs', e, f', hh', by omega⟩

theorem Rel.mono {σ : Nat → Addr} {K K' : Ctx} {w w' : World} {v : V} {x : Value} (h : Rel σ K w v x) (m : Moves K K' w w') : Rel σ K' w' v x := by
  induction h with
  | undef x => exact .undef x
  | bool b => exact .bool b
  | int k n => exact .int k n
  | str s => exact .str s
  | agg l cs hl hc _ ih => exact .agg l cs hl hc ih
  | tuple l cs hl _ ih => exact .tuple l cs hl ih
  | nilp => exact .nilp
  | ptr l i o b off sz hl hρ => exact .ptr l i o b off sz (m.D l hl) ((m.ρ l hl).trans hρ)
  | iptr row o b off val hI hc hw _ ih =>
    exact .iptr row o b off val (m.I b hI) hc (fun j c hj => by rw [cell?_same (m.same b hI)]; exact hw j c hj) ih
  | ext k => exact .ext k
  | nils => exact .nils
  | emp a => exact .emp a
  | imm0 sz a cap => exact .imm0 sz a cap
  | imm sz rows b off cap val hI hcap hs hc hw _ ih =>
    exact .imm sz rows b off cap val (m.I b hI) hcap hs hc (fun i r j c hi hj => by rw [cell?_same (m.same b hI)]; exact hw i r j c hi hj) ih
  | ref l sz s n c ex a cap b off hl hρ hn hc hex ha =>
    exact .ref l sz s n c ex a cap b off (m.D l hl) ((m.ρ l hl).trans hρ) hn hc hex (fun h0 => ⟨(ha h0).1, (ha h0).2.mono m.shape⟩)
  | nili => exact .nili
  | iface t v x hc _ ih => exact .iface t v x hc ih
  | nilf => exact .nilf
  | fn f caps cs hl _ ih => exact .fn f caps cs hl ih

/-- What holds no place of the heap holds under any view of it. -/
theorem Rel.closed {σ : Nat → Addr} {K K' : Ctx} {w : World} {v : V} {x : Value} (h : Rel σ K w v x) (hv : v.closed = true) (hI : ∀ b, K.I b → K'.I b) : Rel σ K' w v x := by
  induction h with
  | undef x => simp [V.closed, V.flat] at hv
  | bool b => exact .bool b
  | int k n => exact .int k n
  | str s => exact .str s
  | agg l cs hl hc _ ih => simp [V.closed, V.flat] at hv
  | tuple l cs hl _ ih => simp [V.closed, V.flat] at hv
  | nilp => exact .nilp
  | ptr l i o b off sz hl hρ => simp [V.closed, V.flat] at hv
  | iptr row o b off val hbI hc hw _ ih =>
    exact .iptr row o b off val (hI b hbI) hc hw (fun j c hj => ih j c hj (hc c (List.mem_of_getElem? hj)))
  | ext k => exact .ext k
  | nils => exact .nils
  | emp a => exact .emp a
  | imm0 sz a cap => exact .imm0 sz a cap
  | imm sz rows b off cap val hbI hcap hs hc hw _ ih =>
    exact .imm sz rows b off cap val (hI b hbI) hcap hs hc hw (fun i r j c hi hj => ih i r j c hi hj (hc r (List.mem_of_getElem? hi) c (List.mem_of_getElem? hj)))
  | ref l sz s n c ex a cap b off hl hρ hn hc hex ha => simp [V.closed, V.flat] at hv
  | nili => exact .nili
  | iface t v x hc hx ih =>
    refine .iface t v x hc (ih ?_)
    cases v <;> simp_all [V.closed, V.flat]
  | nilf => exact .nilf
  | fn f caps cs hl _ ih => simp [V.closed, V.flat] at hv

theorem V.cell_of_flat {v : V} (h : v.flat = true) : v.isCell = true := by cases v <;> simp_all [V.flat, V.isCell]
theorem V.cell_of_closed {v : V} (h : v.closed = true) : v.isCell = true := by
  cases v <;> simp_all [V.closed, V.flat, V.isCell]
theorem V.closed_of_flat {v : V} (h : v.flat = true) : v.closed = true := by
  cases v with
  | iface t v => cases v <;> simp_all [V.closed, V.flat]
  | _ => simp_all [V.closed]

theorem Rel.oneCell {σ : Nat → Addr} {K : Ctx} {w : World} {v : V} {x : Value} (h : Rel σ K w v x) (hv : v.isCell = true) : x.oneCell' = true := by
  cases h <;> simp_all [V.isCell, Value.oneCell']

/-- The cells of a value. -/
theorem Rel.cells {σ : Nat → Addr} {K : Ctx} {w : World} {v : V} {x : Value} (h : Rel σ K w v x) {cs : List V} (hv : v.cells? = some cs) :
    cs.length = x.cells.size ∧ (∀ c ∈ cs, c.isCell = true) ∧ ∀ (i : Nat) a b, cs[i]? = some a → x.cells[i]? = some b → Rel σ K w a b := by
  have one : ∀ v x, Rel σ K w v x → V.isCell v = true → V.cells? v = some cs → Value.cells x = #[x] → v.cells? = some [v] →
      cs.length = x.cells.size ∧ (∀ c ∈ cs, c.isCell = true) ∧ ∀ (i : Nat) a b, cs[i]? = some a → x.cells[i]? = some b → Rel σ K w a b := by
    intro v x h hc hv hx h1
    rw [h1] at hv
    injection hv with hv
    subst hv
    rw [hx]
    refine ⟨rfl, by simpa using hc, ?_⟩
    intro i a b ha hb
    cases i with
    | zero => simp at ha hb; subst ha; subst hb; exact h
    | succ i => simp at ha
  cases h with
  | agg l xs hl hc h => simp [V.cells?] at hv; subst hv; exact ⟨hl, hc, h⟩
  | undef x => simp [V.cells?] at hv
  | tuple l xs hl h => simp [V.cells?] at hv
  | bool b => exact one _ _ (.bool b) rfl hv rfl rfl
  | int k n => exact one _ _ (.int k n) rfl hv rfl rfl
  | str s => exact one _ _ (.str s) rfl hv rfl rfl
  | nilp => exact one _ _ .nilp rfl hv rfl rfl
  | ptr l i o b off sz hl hρ => exact one _ _ (.ptr l i o b off sz hl hρ) rfl hv rfl rfl
  | iptr row o b off val hI hc hw h => exact one _ _ (.iptr row o b off val hI hc hw h) rfl hv rfl rfl
  | ext k => exact one _ _ (.ext k) rfl hv rfl rfl
  | nils => exact one _ _ .nils rfl hv rfl rfl
  | emp a => exact one _ _ (.emp a) rfl hv rfl rfl
  | imm0 sz a cap => exact one _ _ (.imm0 sz a cap) rfl hv rfl rfl
  | imm sz rows b off cap val hI hcap hs hc hw h => exact one _ _ (.imm sz rows b off cap val hI hcap hs hc hw h) rfl hv rfl rfl
  | ref l sz s n c ex a cap b off hl hρ hn hc hex ha => exact one _ _ (.ref l sz s n c ex a cap b off hl hρ hn hc hex ha) rfl hv rfl rfl
  | nili => exact one _ _ .nili rfl hv rfl rfl
  | iface t v x hc h => exact one _ _ (.iface t v x hc h) rfl hv rfl rfl
  | nilf => exact one _ _ .nilf rfl hv rfl rfl
  | fn f caps cs' hl h => exact one _ _ (.fn f caps cs' hl h) rfl hv rfl rfl

/-- A row of cells of which none is frozen. -/
def Lies (w : World) (b : Nat) (cs : Array Value) (e : TypeId) : Prop := ∃ f : Nat × Nat, w.heap[b]? = some (Obj.cells cs e f) ∧ (f = (0, 0) ∨ cs.size ≤ f.1)

theorem Lies.of0 {w : World} {b : Nat} {cs : Array Value} {e : TypeId} (h : w.heap[b]? = some (Obj.cells cs e (0, 0))) : Lies w b cs e := ⟨_, h, .inl rfl⟩
theorem Lies.lt {w : World} {b : Nat} {cs : Array Value} {e : TypeId} (h : Lies w b cs e) : b < w.heap.size := by
  obtain ⟨f, h, _⟩ := h
  exact (Array.getElem?_eq_some_iff.1 h).1
theorem Lies.same {w w' : World} {b : Nat} {cs : Array Value} {e : TypeId} (h : Lies w b cs e) (hh : w'.heap[b]? = w.heap[b]?) : Lies w' b cs e := by
  obtain ⟨f, h, g⟩ := h
  exact ⟨f, hh.trans h, g⟩
theorem Lies.cell {w : World} {b : Nat} {cs : Array Value} {e : TypeId} (h : Lies w b cs e) (o : Nat) : w.cell? ⟨b, o, none⟩ = cs[o]? := by
  obtain ⟨f, h, _⟩ := h
  exact cell_of_row w b _ cs e f h
theorem Lies.row {w : World} {b : Nat} {cs : Array Value} {e : TypeId} (h : Lies w b cs e) : ∃ f, w.heap[b]? = some (Obj.cells cs e f) := by
  obtain ⟨f, h, _⟩ := h
  exact ⟨f, h⟩
theorem Lies.set {w : World} {b : Nat} {cs cs' : Array Value} {e : TypeId} (h : Lies w b cs e) (hs : cs'.size = cs.size) : Lies (w.setRow b cs') b cs' e := by
  obtain ⟨f, h, g⟩ := h
  exact ⟨f, setRow_heap w b cs cs' e f h, by rw [hs]; exact g⟩
theorem Lies.room {w : World} {b : Nat} {cs : Array Value} {e : TypeId} (h : Lies w b cs e) {n : Nat} (r : roomAt w b n) : n ≤ cs.size := by
  obtain ⟨f, h, _⟩ := h
  obtain ⟨cs0, e0, f0, r1, r2⟩ := r
  rw [h] at r1
  injection r1 with r1
  injection r1 with r1 r3 r4
  subst r1
  exact r2

/-- A block of the small heap, as it lies in the world. -/
structure BlkAt (σ : Nat → Addr) (K : Ctx) (w : World) (l : Nat) (b : Blk) : Prop where
  lt : K.D l
  sz : (K.ρ l).2.2 = b.sz
  own : ¬ K.I (K.ρ l).1
  rows : ∀ r ∈ b.rows, r.length = b.sz
  at_ : ∃ cs e, Lies w (K.ρ l).1 cs e ∧ (K.ρ l).2.1 + b.rows.length * b.sz ≤ cs.size ∧
    ∀ (i : Nat) r (j : Nat) c, b.rows[i]? = some r → r[j]? = some c → c.isCell = true ∧ ∃ x, cs[(K.ρ l).2.1 + i * b.sz + j]? = some x ∧ Rel σ K w c x

structure Inv (σ : Nat → Addr) (K : Ctx) (H : Heap) (w : World) : Prop where
  nx : K.nx = H.next
  dom : ∀ l, K.D l → l < K.nx
  flo : H.floor ≤ H.next
  blk : ∀ l b, H.blk l = some b → BlkAt σ K w l b
  inj : ∀ l l' b b', H.blk l = some b → H.blk l' = some b' → (K.ρ l).1 = (K.ρ l').1 → l = l'
  imm : ∀ b, K.I b → b < w.heap.size

/-- What one step may turn. -/
structure Evo (K : Ctx) (H : Heap) (w : World) (K' : Ctx) (H' : Heap) (w' : World) : Prop where
  I : ∀ b, K.I b → K'.I b
  ρ : ∀ l, K.D l → K'.ρ l = K.ρ l
  D : ∀ l, K.D l → K'.D l
  nx : K.nx ≤ K'.nx
  floor : H'.floor = H.floor
  low : ∀ l, l < H.floor → l < H.next → H'.blk l = H.blk l
  frame : ∀ (b : Nat), b < w.heap.size → (∀ l B, H.blk l = some B → H.floor ≤ l → (K.ρ l).1 ≠ b) → w'.heap[b]? = w.heap[b]?
  shape : ∀ (b : Nat) (cs : Array Value) (e : TypeId) (f : Nat × Nat), w.heap[b]? = some (Obj.cells cs e f) → ∃ cs' f', w'.heap[b]? = some (Obj.cells cs' e f') ∧ cs'.size = cs.size
  size : w.heap.size ≤ w'.heap.size
  os : w'.os = w.os
  tape : w'.tape = w.tape
  output : w'.output = w.output
  range : ∀ l B, H'.blk l = some B → (K'.ρ l).1 < w.heap.size → ∃ l0 B0, H.blk l0 = some B0 ∧ (K.ρ l0).1 = (K'.ρ l).1 ∧ (l0 = l ∨ H.floor ≤ l0)
  newI : ∀ (b : Nat), K'.I b → b < w.heap.size → K.I b
  newD : ∀ l, K'.D l → l < K.nx → K.D l

theorem Evo.refl (K : Ctx) (H : Heap) (w : World) : Evo K H w K H w where
  I := fun _ h => h
  ρ := fun _ _ => rfl
  D := fun _ h => h
  nx := Nat.le_refl _
  floor := rfl
  low := fun _ _ _ => rfl
  frame := fun _ _ _ => rfl
  shape := fun b cs e f h => ⟨cs, f, h, rfl⟩
  size := Nat.le_refl _
  os := rfl
  tape := rfl
  output := rfl
  range := fun l B h _ => ⟨l, B, h, rfl, .inl rfl⟩
  newI := fun _ h _ => h
  newD := fun _ h _ => h

theorem Inv.moves {σ : Nat → Addr} {K K' : Ctx} {H H' : Heap} {w w' : World} (inv : Inv σ K H w) (e : Evo K H w K' H' w') : Moves K K' w w' where
  I := e.I
  ρ := e.ρ
  D := e.D
  same := fun b hb => e.frame b (inv.imm b hb) (fun l B hl _ he => (inv.blk l B hl).own (he ▸ hb))
  shape := e.shape

theorem Evo.trans {σ : Nat → Addr} {K K1 K2 : Ctx} {H H1 H2 : Heap} {w w1 w2 : World} (i0 : Inv σ K H w) (i1 : Inv σ K1 H1 w1) (a : Evo K H w K1 H1 w1) (b : Evo K1 H1 w1 K2 H2 w2) : Evo K H w K2 H2 w2 where
  I := fun x h => b.I x (a.I x h)
  ρ := fun l h => (b.ρ l (a.D l h)).trans (a.ρ l h)
  D := fun l h => b.D l (a.D l h)
  nx := Nat.le_trans a.nx b.nx
  floor := b.floor.trans a.floor
  low := fun l h h' => (b.low l (a.floor ▸ h) (Nat.lt_of_lt_of_le h' (by have := a.nx; rw [i0.nx, i1.nx] at this; exact this))).trans (a.low l h h')
  frame := fun x hx hl => (b.frame x (Nat.lt_of_lt_of_le hx a.size) (fun l B hB hf he => by
    obtain ⟨l0, B0, h0, e0, hor⟩ := a.range l B hB (he ▸ hx)
    rcases hor with rfl | hor
    · exact hl l0 B0 h0 (a.floor ▸ hf) (e0.trans he)
    · exact hl l0 B0 h0 hor (e0.trans he))).trans (a.frame x hx hl)
  shape := fun x cs e f h => by
    obtain ⟨cs1, f1, h1, s1⟩ := a.shape x cs e f h
    obtain ⟨cs2, f2, h2, s2⟩ := b.shape x cs1 e f1 h1
    exact ⟨cs2, f2, h2, s2.trans s1⟩
  size := Nat.le_trans a.size b.size
  os := b.os.trans a.os
  tape := b.tape.trans a.tape
  output := b.output.trans a.output
  range := fun l B hB hlt => by
    obtain ⟨l1, B1, h1, e1, o1⟩ := b.range l B hB (Nat.lt_of_lt_of_le hlt a.size)
    obtain ⟨l0, B0, h0, e0, o0⟩ := a.range l1 B1 h1 (e1 ▸ hlt)
    refine ⟨l0, B0, h0, e0.trans e1, ?_⟩
    rcases o0 with rfl | o0
    · rcases o1 with rfl | o1
      · exact .inl rfl
      · exact .inr (a.floor ▸ o1)
    · exact .inr o0
  newI := fun x hx hlt => a.newI x (b.newI x hx (Nat.lt_of_lt_of_le hlt a.size)) hlt
  newD := fun l h hlt => a.newD l (b.newD l h (Nat.lt_of_lt_of_le hlt a.nx)) hlt

theorem setRow_heap' (w : World) (g : Nat) (cs cs' : Array Value) (e : TypeId) (f : Nat × Nat) (hg : w.heap[g]? = some (Obj.cells cs e f)) : (w.setRow g cs').heap[g]? = some (Obj.cells cs' e f) := by
  exact setRow_heap w g cs cs' e f hg

/-- A block more. -/
theorem Inv.addF {σ : Nat → Addr} {K : Ctx} {H : Heap} {w : World} (inv : Inv σ K H w) (t : TypeId) (sz : Nat) (rows : List (List V)) (cs : Array Value) (fz : Nat × Nat) (hfz : fz = (0, 0) ∨ cs.size ≤ fz.1)
    (hs : ∀ r ∈ rows, r.length = sz) (hroom : rows.length * sz ≤ cs.size)
    (hc : ∀ (i : Nat) r (j : Nat) c, rows[i]? = some r → r[j]? = some c → c.isCell = true ∧ ∃ x, cs[i * sz + j]? = some x ∧ Rel σ K w c x) :
    ∃ K', Inv σ K' (H.add ⟨sz, rows⟩) (w.alloc (Obj.cells cs t fz)) ∧ Evo K H w K' (H.add ⟨sz, rows⟩) (w.alloc (Obj.cells cs t fz)) ∧ K'.nx = K.nx + 1 ∧ K'.ρ K.nx = (w.heap.size, 0, sz) ∧ K'.D K.nx := by
  let K' : Ctx := ⟨K.I, fun l => if l = K.nx then (w.heap.size, 0, sz) else K.ρ l, K.nx + 1, fun l => K.D l ∨ l = K.nx⟩
  have hnew : (w.alloc (Obj.cells cs t fz)).heap[w.heap.size]? = some (Obj.cells cs t fz) := heap_alloc_new w _
  have hold : ∀ i, i < w.heap.size → (w.alloc (Obj.cells cs t fz)).heap[i]? = w.heap[i]? := fun i hi => heap_alloc_old w _ i hi
  have hlt : ∀ (b : Nat) o, w.heap[b]? = some o → b < w.heap.size := fun b o h => (Array.getElem?_eq_some_iff.1 h).1
  have evo : Evo K H w K' (H.add ⟨sz, rows⟩) (w.alloc (Obj.cells cs t fz)) := {
    I := fun _ h => h
    ρ := fun l hl => by show (if l = K.nx then _ else _) = _; rw [if_neg (by have := inv.dom l hl; omega)]
    D := fun l h => .inl h
    nx := Nat.le_succ _
    floor := rfl
    low := fun l _ hl => by show (if l = H.next then _ else _) = _; rw [if_neg (by omega)]
    frame := fun b hb _ => hold b hb
    shape := fun b cs' e f h => ⟨cs', f, (hold b (hlt _ _ h)).trans h, rfl⟩
    size := by show w.heap.size ≤ (w.heap.push _).size; simp
    os := rfl
    tape := rfl
    output := rfl
    range := fun l B hB hl => by
      by_cases e : l = H.next
      · have h0 : K'.ρ l = (w.heap.size, 0, sz) := by show (if l = K.nx then _ else _) = _; rw [if_pos (e.trans inv.nx.symm)]
        rw [h0] at hl
        exact absurd hl (Nat.lt_irrefl _)
      · have hB' : H.blk l = some B := by have : (if l = H.next then _ else _) = some B := hB; rwa [if_neg e] at this
        have h0 : K'.ρ l = K.ρ l := by show (if l = K.nx then _ else _) = _; rw [if_neg (by rw [inv.nx]; exact e)]
        exact ⟨l, B, hB', by rw [h0], .inl rfl⟩
    newI := fun b h _ => h
    newD := fun l h hlt => h.resolve_right (by omega) }
  have mv := inv.moves evo
  refine ⟨K', ⟨by show K.nx + 1 = H.next + 1; rw [inv.nx], fun l h => by show l < K.nx + 1; rcases h with h | h; (have := inv.dom l h; omega); omega, Nat.le_succ_of_le inv.flo, ?_, ?_, fun b hb => Nat.lt_of_lt_of_le (inv.imm b hb) evo.size⟩, evo, rfl, by show (if K.nx = K.nx then _ else _) = _; rw [if_pos rfl], .inr rfl⟩
  · intro l B hB
    by_cases e : l = H.next
    · have hρ : K'.ρ l = (w.heap.size, 0, sz) := by show (if l = K.nx then _ else _) = _; rw [if_pos (e.trans inv.nx.symm)]
      have hB' : B = ⟨sz, rows⟩ := by have : (if l = H.next then _ else _) = some B := hB; rw [if_pos e] at this; injection this with this; exact this.symm
      subst hB'
      refine ⟨.inr (e.trans inv.nx.symm), by rw [hρ], by rw [hρ]; exact fun h => absurd (inv.imm _ h) (Nat.lt_irrefl _), hs, cs, t, by rw [hρ]; exact ⟨fz, hnew, hfz⟩, by rw [hρ]; simpa using hroom, ?_⟩
      intro i r j c hi hj
      obtain ⟨h1, x, h2, h3⟩ := hc i r j c hi hj
      exact ⟨h1, x, by rw [hρ]; simpa using h2, h3.mono mv⟩
    · have hB' : H.blk l = some B := by have : (if l = H.next then _ else _) = some B := hB; rwa [if_neg e] at this
      have hb := inv.blk l B hB'
      have hρ : K'.ρ l = K.ρ l := by show (if l = K.nx then _ else _) = _; rw [if_neg (by rw [inv.nx]; exact e)]
      obtain ⟨cs0, e0, h0, h1, h2⟩ := hb.at_
      refine ⟨.inl hb.lt, by rw [hρ]; exact hb.sz, by rw [hρ]; exact hb.own, hb.rows, cs0, e0, by rw [hρ]; exact h0.same (hold _ h0.lt), by rw [hρ]; exact h1, ?_⟩
      intro i r j c hi hj
      obtain ⟨h3, x, h4, h5⟩ := h2 i r j c hi hj
      exact ⟨h3, x, by rw [hρ]; exact h4, h5.mono mv⟩
  · intro l l' B B' hB hB' he
    have old : ∀ l B, (H.add ⟨sz, rows⟩).blk l = some B → l ≠ H.next → H.blk l = some B ∧ K'.ρ l = K.ρ l ∧ (K'.ρ l).1 < w.heap.size := fun l B hB e => by
      have hB' : H.blk l = some B := by have : (if l = H.next then _ else _) = some B := hB; rwa [if_neg e] at this
      have hρ : K'.ρ l = K.ρ l := by show (if l = K.nx then _ else _) = _; rw [if_neg (by rw [inv.nx]; exact e)]
      obtain ⟨cs0, e0, h0, _⟩ := (inv.blk l B hB').at_
      exact ⟨hB', hρ, by rw [hρ]; exact h0.lt⟩
    have new : ∀ l, l = H.next → (K'.ρ l).1 = w.heap.size := fun l e => by
      have h0 : K'.ρ l = (w.heap.size, 0, sz) := by show (if l = K.nx then _ else _) = _; rw [if_pos (e.trans inv.nx.symm)]
      rw [h0]
    by_cases e : l = H.next <;> by_cases e' : l' = H.next
    · rw [e, e']
    · have := (old l' B' hB' e').2.2; have := new l e; omega
    · have := (old l B hB e).2.2; have := new l' e'; omega
    · obtain ⟨a1, a2, _⟩ := old l B hB e
      obtain ⟨b1, b2, _⟩ := old l' B' hB' e'
      exact inv.inj l l' B B' a1 b1 (by rw [← a2, ← b2]; exact he)

theorem Inv.add {σ : Nat → Addr} {K : Ctx} {H : Heap} {w : World} (inv : Inv σ K H w) (t : TypeId) (sz : Nat) (rows : List (List V)) (cs : Array Value)
    (hs : ∀ r ∈ rows, r.length = sz) (hroom : rows.length * sz ≤ cs.size)
    (hc : ∀ (i : Nat) r (j : Nat) c, rows[i]? = some r → r[j]? = some c → c.isCell = true ∧ ∃ x, cs[i * sz + j]? = some x ∧ Rel σ K w c x) :
    ∃ K', Inv σ K' (H.add ⟨sz, rows⟩) (w.alloc (Obj.cells cs t)) ∧ Evo K H w K' (H.add ⟨sz, rows⟩) (w.alloc (Obj.cells cs t)) ∧ K'.nx = K.nx + 1 ∧ K'.ρ K.nx = (w.heap.size, 0, sz) ∧ K'.D K.nx :=
  inv.addF t sz rows cs (0, 0) (.inl rfl) hs hroom hc

/-- A block written over. -/
theorem Inv.write {σ : Nat → Addr} {K : Ctx} {H : Heap} {w : World} (inv : Inv σ K H w) {l : Nat} {b : Blk} (hb : H.blk l = some b) (hf : H.floor ≤ l)
    {cs cs' : Array Value} {e : TypeId} {rows : List (List V)} (hcs : Lies w (K.ρ l).1 cs e) (hsz : cs'.size = cs.size)
    (hs : ∀ r ∈ rows, r.length = b.sz) (hroom : (K.ρ l).2.1 + rows.length * b.sz ≤ cs'.size)
    (hc : ∀ (i : Nat) r (j : Nat) c, rows[i]? = some r → r[j]? = some c → c.isCell = true ∧ ∃ x, cs'[(K.ρ l).2.1 + i * b.sz + j]? = some x ∧ Rel σ K w c x) :
    Inv σ K (H.set l ⟨b.sz, rows⟩) (w.setRow (K.ρ l).1 cs') ∧ Evo K H w K (H.set l ⟨b.sz, rows⟩) (w.setRow (K.ρ l).1 cs') := by
  have hnew : Lies (w.setRow (K.ρ l).1 cs') (K.ρ l).1 cs' e := hcs.set hsz
  have hold : ∀ i, i ≠ (K.ρ l).1 → (w.setRow (K.ρ l).1 cs').heap[i]? = w.heap[i]? := fun i hi => setRow_other w _ i _ hi
  have hl := (inv.blk l b hb).lt
  have evo : Evo K H w K (H.set l ⟨b.sz, rows⟩) (w.setRow (K.ρ l).1 cs') := {
    I := fun _ h => h
    ρ := fun _ _ => rfl
    D := fun _ h => h
    nx := Nat.le_refl _
    floor := rfl
    low := fun l' h' _ => by show (if l' = l then _ else _) = _; rw [if_neg (by omega)]
    frame := fun i _ hi => hold i (fun e => hi l b hb hf e.symm)
    shape := fun i cs1 e1 f1 h => by
      by_cases hi : i = (K.ρ l).1
      · subst hi
        obtain ⟨f, hf', _⟩ := hcs
        rw [hf'] at h
        injection h with h
        injection h with h1 h2 h3
        subst h1; subst h2
        exact ⟨cs', f, setRow_heap w _ _ _ _ _ hf', hsz⟩
      · exact ⟨cs1, f1, (hold i hi).trans h, rfl⟩
    size := by simp
    os := rfl
    tape := rfl
    output := rfl
    range := fun l' B hB _ => by
      by_cases e : l' = l
      · exact ⟨l', b, e ▸ hb, rfl, .inl rfl⟩
      · have hB' : H.blk l' = some B := by have : (if l' = l then _ else _) = some B := hB; rwa [if_neg e] at this
        exact ⟨l', B, hB', rfl, .inl rfl⟩
    newI := fun _ h _ => h
    newD := fun _ h _ => h }
  have mv := inv.moves evo
  refine ⟨⟨inv.nx, inv.dom, inv.flo, ?_, ?_, fun i hi => by simpa using inv.imm i hi⟩, evo⟩
  · intro l' B hB
    by_cases e : l' = l
    · subst e
      have hB' : B = ⟨b.sz, rows⟩ := by have : (if l' = l' then _ else _) = some B := hB; rw [if_pos rfl] at this; injection this with this; exact this.symm
      subst hB'
      have h0 := inv.blk l' b hb
      refine ⟨h0.lt, h0.sz, h0.own, hs, cs', _, hnew, hroom, ?_⟩
      intro i r j c hi hj
      obtain ⟨h3, x, h4, h5⟩ := hc i r j c hi hj
      exact ⟨h3, x, h4, h5.mono mv⟩
    · have hB' : H.blk l' = some B := by have : (if l' = l then _ else _) = some B := hB; rwa [if_neg e] at this
      have h0 := inv.blk l' B hB'
      obtain ⟨cs0, e0, h1, h2, h3⟩ := h0.at_
      refine ⟨h0.lt, h0.sz, h0.own, h0.rows, cs0, e0, h1.same (hold _ (fun he => e (inv.inj _ _ _ _ hB' hb he))), h2, ?_⟩
      intro i r j c hi hj
      obtain ⟨h4, x, h5, h6⟩ := h3 i r j c hi hj
      exact ⟨h4, x, h5, h6.mono mv⟩
  · intro l1 l2 B1 B2 h1 h2 he
    have live : ∀ l' B, (H.set l ⟨b.sz, rows⟩).blk l' = some B → ∃ B', H.blk l' = some B' := fun l' B hB => by
      by_cases e : l' = l
      · exact ⟨b, e ▸ hb⟩
      · exact ⟨B, by have : (if l' = l then _ else _) = some B := hB; rwa [if_neg e] at this⟩
    obtain ⟨C1, g1⟩ := live l1 B1 h1
    obtain ⟨C2, g2⟩ := live l2 B2 h2
    exact inv.inj _ _ _ _ g1 g2 he

theorem Inv.kill {σ : Nat → Addr} {K : Ctx} {H : Heap} {w : World} (inv : Inv σ K H w) {l : Nat} (hf : H.floor ≤ l) : Inv σ K (H.kill l) w ∧ Evo K H w K (H.kill l) w := by
  have live : ∀ l' B, (H.kill l).blk l' = some B → H.blk l' = some B := fun l' B hB => by
    by_cases e : l' = l
    · have : (if l' = l then none else _) = some B := hB; rw [if_pos e] at this; cases this
    · have : (if l' = l then none else _) = some B := hB; rwa [if_neg e] at this
  refine ⟨⟨inv.nx, inv.dom, inv.flo, fun l' B hB => inv.blk l' B (live _ _ hB), fun l1 l2 B1 B2 h1 h2 => inv.inj _ _ _ _ (live _ _ h1) (live _ _ h2), inv.imm⟩, ?_⟩
  exact { Evo.refl K H w with
    low := fun l' h' _ => by show (if l' = l then none else _) = _; rw [if_neg (by omega)]
    range := fun l' B hB _ => ⟨l', B, live _ _ hB, rfl, .inl rfl⟩ }

/-- A block of which nothing is known here. -/
theorem Inv.junk {σ : Nat → Addr} {K : Ctx} {H : Heap} {w : World} (inv : Inv σ K H w) (o : Obj) : Inv σ K H (w.alloc o) ∧ Evo K H w K H (w.alloc o) := by
  have hold : ∀ i, i < w.heap.size → (w.alloc o).heap[i]? = w.heap[i]? := fun i hi => heap_alloc_old w _ i hi
  have hlt : ∀ (b : Nat) o, w.heap[b]? = some o → b < w.heap.size := fun b o h => (Array.getElem?_eq_some_iff.1 h).1
  have evo : Evo K H w K H (w.alloc o) := {
    I := fun _ h => h
    ρ := fun _ _ => rfl
    D := fun _ h => h
    nx := Nat.le_refl _
    floor := rfl
    low := fun _ _ _ => rfl
    frame := fun b hb _ => hold b hb
    shape := fun b cs' e f h => ⟨cs', f, (hold b (hlt _ _ h)).trans h, rfl⟩
    size := by show w.heap.size ≤ (w.heap.push _).size; simp
    os := rfl
    tape := rfl
    output := rfl
    range := fun l B h _ => ⟨l, B, h, rfl, .inl rfl⟩
    newI := fun _ h _ => h
    newD := fun _ h _ => h }
  have mv := inv.moves evo
  refine ⟨⟨inv.nx, inv.dom, inv.flo, fun l B hB => ?_, inv.inj, fun b hb => Nat.lt_of_lt_of_le (inv.imm b hb) evo.size⟩, evo⟩
  have h0 := inv.blk l B hB
  obtain ⟨cs0, e0, h1, h2, h3⟩ := h0.at_
  refine ⟨h0.lt, h0.sz, h0.own, h0.rows, cs0, e0, h1.same (hold _ h1.lt), h2, ?_⟩
  intro i r j c hi hj
  obtain ⟨h4, x, h5, h6⟩ := h3 i r j c hi hj
  exact ⟨h4, x, h5, h6.mono mv⟩

/-- A draw turns nothing. -/
theorem Inv.drew {σ : Nat → Addr} {K : Ctx} {H : Heap} {w : World} (inv : Inv σ K H w) : Inv σ K H w.drew ∧ Evo K H w K H w.drew := by
  have evo : Evo K H w K H w.drew := { Evo.refl K H w with
    frame := fun _ _ _ => rfl
    shape := fun b cs e f h => ⟨cs, f, h, rfl⟩
    size := Nat.le_refl _
    os := rfl
    tape := rfl
    output := rfl
    range := fun l B h _ => ⟨l, B, h, rfl, .inl rfl⟩
    newI := fun _ h _ => h
    newD := fun _ h _ => h }
  have mv := inv.moves evo
  refine ⟨⟨inv.nx, inv.dom, inv.flo, fun l B hB => ?_, inv.inj, inv.imm⟩, evo⟩
  have h0 := inv.blk l B hB
  obtain ⟨cs0, e0, h1, h2, h3⟩ := h0.at_
  refine ⟨h0.lt, h0.sz, h0.own, h0.rows, cs0, e0, h1, h2, ?_⟩
  intro i r j c hi hj
  obtain ⟨h4, x, h5, h6⟩ := h3 i r j c hi hj
  exact ⟨h4, x, h5, h6.mono mv⟩

end Go.Fv

/-! Rows of cells, flat. -/
namespace Go.Fv
open Go

theorem flatten_get {α : Type} {sz : Nat} : ∀ (rows : List (List α)), (∀ r ∈ rows, r.length = sz) → ∀ (i j : Nat), j < sz → rows.flatten[i * sz + j]? = (rows[i]?).bind fun r => r[j]?
  | [], _, i, j, _ => by simp
  | r :: rows, h, 0, j, hj => by
    have hr := h r (by simp)
    simp [List.getElem?_append, hr, hj]
  | r :: rows, h, i + 1, j, hj => by
    have hr := h r (by simp)
    have ih := flatten_get rows (fun r hr => h r (by simp [hr])) i j hj
    rw [List.flatten_cons, List.getElem?_append_right (by rw [hr, Nat.succ_mul]; omega), hr, show (i + 1) * sz + j - sz = i * sz + j by rw [Nat.succ_mul]; omega, ih]
    simp

theorem flatten_length {α : Type} {sz : Nat} : ∀ (rows : List (List α)), (∀ r ∈ rows, r.length = sz) → rows.flatten.length = rows.length * sz
  | [], _ => by simp
  | r :: rows, h => by
    have ih := flatten_length rows (fun r hr => h r (by simp [hr]))
    rw [List.flatten_cons, List.length_append, ih, h r (by simp), List.length_cons, Nat.succ_mul]; omega

theorem flatten_take {α : Type} {sz : Nat} : ∀ (rows : List (List α)), (∀ r ∈ rows, r.length = sz) → ∀ k, (rows.take k).flatten = rows.flatten.take (k * sz)
  | _, _, 0 => by simp
  | [], _, k + 1 => by simp
  | r :: rows, h, k + 1 => by
    have ih := flatten_take rows (fun r hr => h r (by simp [hr])) k
    have hr := h r (by simp)
    rw [List.take_succ_cons, List.flatten_cons, List.flatten_cons, ih, List.take_append, hr, show (k + 1) * sz - sz = k * sz by rw [Nat.succ_mul]; omega, List.take_of_length_le (l := r) (by rw [hr, Nat.succ_mul]; omega)]

theorem flatten_drop {α : Type} {sz : Nat} : ∀ (rows : List (List α)), (∀ r ∈ rows, r.length = sz) → ∀ k, (rows.drop k).flatten = rows.flatten.drop (k * sz)
  | _, _, 0 => by simp
  | [], _, k + 1 => by simp
  | r :: rows, h, k + 1 => by
    have ih := flatten_drop rows (fun r hr => h r (by simp [hr])) k
    have hr := h r (by simp)
    rw [List.drop_succ_cons, List.flatten_cons, ih, List.drop_append, hr, show (k + 1) * sz - sz = k * sz by rw [Nat.succ_mul]; omega, List.drop_of_length_le (l := r) (by rw [hr, Nat.succ_mul]; omega), List.nil_append]

theorem flatten_set {α : Type} {sz : Nat} : ∀ (rows : List (List α)), (∀ r ∈ rows, r.length = sz) → ∀ (i : Nat) (r' : List α), i < rows.length →
    (rows.set i r').flatten = rows.flatten.take (i * sz) ++ r' ++ rows.flatten.drop (i * sz + sz)
  | [], _, i, r', hi => by simp at hi
  | r :: rows, h, 0, r', _ => by
    have hr := h r (by simp)
    simp [List.drop_append, hr, List.drop_of_length_le (l := r) (i := sz) (by omega)]
  | r :: rows, h, i + 1, r', hi => by
    have hr := h r (by simp)
    have ih := flatten_set rows (fun r hr => h r (by simp [hr])) i r' (by simpa using hi)
    rw [List.set_cons_succ, List.flatten_cons, ih, List.flatten_cons, List.take_append, List.drop_append, hr,
      List.take_of_length_le (l := r) (by rw [hr, Nat.succ_mul]; omega), List.drop_of_length_le (l := r) (by rw [hr, Nat.succ_mul]; omega),
      show (i + 1) * sz - sz = i * sz by rw [Nat.succ_mul]; omega, show (i + 1) * sz + sz - sz = i * sz + sz by rw [Nat.succ_mul]; omega]
    simp

theorem flatten_splice {α : Type} {sz : Nat} (rows : List (List α)) (hs : ∀ r ∈ rows, r.length = sz) (i o : Nat) (r cs : List α) (hr : rows[i]? = some r) (hle : o + cs.length ≤ r.length) :
    (rows.set i (r.take o ++ cs ++ r.drop (o + cs.length))).flatten = rows.flatten.take (i * sz + o) ++ cs ++ rows.flatten.drop (i * sz + o + cs.length) := by
  have hi : i < rows.length := (List.getElem?_eq_some_iff.1 hr).1
  have hrl := hs r (List.mem_of_getElem? hr)
  have hfl := flatten_length rows hs
  have hmul : i * sz + sz ≤ rows.length * sz := by
    have : (i + 1) * sz ≤ rows.length * sz := Nat.mul_le_mul_right _ hi
    rwa [Nat.succ_mul] at this
  have h1 := flatten_set rows hs i r hi
  have h2 : rows.set i r = rows := by
    apply List.ext_getElem?
    intro k
    rw [List.getElem?_set]
    by_cases e : i = k
    · subst e; rw [if_pos rfl, if_pos hi]; exact hr.symm
    · rw [if_neg e]
  rw [h2] at h1
  rw [flatten_set rows hs i _ hi]
  have hA : (rows.flatten.take (i * sz)).length = i * sz := by rw [List.length_take]; omega
  generalize hAe : rows.flatten.take (i * sz) = A at *
  generalize hBe : rows.flatten.drop (i * sz + sz) = B at *
  have t1 : (A ++ r ++ B).take (i * sz + o) = A ++ r.take o := by
    rw [List.append_assoc, List.take_append, hA, show i * sz + o - i * sz = o by omega, List.take_of_length_le (l := A) (by omega), List.take_append, show o - r.length = 0 by omega]
    simp
  have t2 : (A ++ r ++ B).drop (i * sz + o + cs.length) = r.drop (o + cs.length) ++ B := by
    rw [List.append_assoc, List.drop_append, hA, show i * sz + o + cs.length - i * sz = o + cs.length by omega, List.drop_of_length_le (l := A) (by omega), List.drop_append, show o + cs.length - r.length = 0 by omega]
    simp
  rw [h1, t1, t2]
  simp

/-- The list l lies in the cells f from base on. -/
def CellsAt (σ : Nat → Addr) (K : Ctx) (w : World) (f : Nat → Option Value) (base : Nat) (l : List V) : Prop :=
  ∀ (j : Nat) c, l[j]? = some c → c.isCell = true ∧ ∃ x, f (base + j) = some x ∧ Rel σ K w c x

section
variable {σ : Nat → Addr} {K : Ctx} {w : World} {f g : Nat → Option Value} {base : Nat} {l l' : List V}

theorem CellsAt.nil : CellsAt σ K w f base [] := fun j c h => by simp at h
theorem CellsAt.take (h : CellsAt σ K w f base l) (k : Nat) : CellsAt σ K w f base (l.take k) := fun j c hj => by
  rw [List.getElem?_take] at hj
  split at hj
  · exact h j c hj
  · cases hj
theorem CellsAt.drop (h : CellsAt σ K w f base l) (k : Nat) : CellsAt σ K w f (base + k) (l.drop k) := fun j c hj => by
  rw [List.getElem?_drop] at hj
  rw [Nat.add_assoc]
  exact h _ c hj
theorem CellsAt.append (h : CellsAt σ K w f base l) (h' : CellsAt σ K w f (base + l.length) l') : CellsAt σ K w f base (l ++ l') := fun j c hj => by
  by_cases hlt : j < l.length
  · rw [List.getElem?_append_left hlt] at hj
    exact h j c hj
  · rw [List.getElem?_append_right (by omega)] at hj
    have := h' _ c hj
    rwa [show base + l.length + (j - l.length) = base + j by omega] at this
theorem CellsAt.congr (h : CellsAt σ K w f base l) (hfg : ∀ j, j < l.length → g (base + j) = f (base + j)) : CellsAt σ K w g base l := fun j c hj => by
  have hlt : j < l.length := (List.getElem?_eq_some_iff.1 hj).1
  rw [hfg j hlt]
  exact h j c hj
theorem CellsAt.cell (h : CellsAt σ K w f base l) : ∀ c ∈ l, c.isCell = true := fun c hc => by
  obtain ⟨j, hj⟩ := List.getElem?_of_mem hc
  exact (h j c hj).1
theorem CellsAt.mono {K' : Ctx} {w' : World} (h : CellsAt σ K w f base l) (m : Moves K K' w w') : CellsAt σ K' w' f base l := fun j c hj => by
  obtain ⟨h1, x, h2, h3⟩ := h j c hj
  exact ⟨h1, x, h2, h3.mono m⟩

theorem rows_flat {sz : Nat} {rows : List (List V)} (hs : ∀ r ∈ rows, r.length = sz) :
    (∀ (i : Nat) r (j : Nat) c, rows[i]? = some r → r[j]? = some c → c.isCell = true ∧ ∃ x, f (base + i * sz + j) = some x ∧ Rel σ K w c x) ↔ CellsAt σ K w f base rows.flatten := by
  constructor
  · intro h k c hk
    have hlt : k < rows.flatten.length := (List.getElem?_eq_some_iff.1 hk).1
    rw [flatten_length rows hs] at hlt
    have hsz : 0 < sz := by
      rcases Nat.eq_zero_or_pos sz with e | e
      · rw [e] at hlt; simp at hlt
      · exact e
    have e : k / sz * sz + k % sz = k := Nat.div_add_mod' k sz
    have := flatten_get rows hs (k / sz) (k % sz) (Nat.mod_lt _ hsz)
    rw [e, hk] at this
    cases hr : rows[k / sz]? with
    | none => rw [hr] at this; cases this
    | some r =>
      rw [hr] at this
      have hh := h (k / sz) r (k % sz) c hr this.symm
      rwa [Nat.add_assoc, e] at hh
  · intro h i r j c hi hj
    have hr := hs r (List.mem_of_getElem? hi)
    have hlt : j < sz := by rw [← hr]; exact (List.getElem?_eq_some_iff.1 hj).1
    have := h (i * sz + j) c (by rw [flatten_get rows hs i j hlt, hi]; exact hj)
    rwa [← Nat.add_assoc] at this

/-- The values that stand for a list. -/
theorem CellsAt.vals (h : CellsAt σ K w f base l) : ∃ xs : List Value, xs.length = l.length ∧ (∀ (j : Nat) x, xs[j]? = some x → f (base + j) = some x) ∧
    (∀ (j : Nat) c x, l[j]? = some c → xs[j]? = some x → Rel σ K w c x) ∧ (∀ x ∈ xs, x.oneCell' = true) := by
  induction l generalizing base with
  | nil => exact ⟨[], rfl, fun j x h => by simp at h, fun j c x h => by simp at h, fun x h => by simp at h⟩
  | cons a l ih =>
    obtain ⟨h1, x, h2, h3⟩ := h 0 a rfl
    have ht : CellsAt σ K w f (base + 1) l := fun j c hj => by
      have := h (j + 1) c (by simpa using hj)
      rwa [show base + (j + 1) = base + 1 + j by omega] at this
    obtain ⟨xs, e1, e2, e3, e4⟩ := ih ht
    refine ⟨x :: xs, by simp [e1], ?_, ?_, ?_⟩
    · intro j y hj
      cases j with
      | zero => simp at hj; subst hj; exact h2
      | succ j => simp at hj; have := e2 j y hj; rwa [show base + 1 + j = base + (j + 1) by omega] at this
    · intro j c y hj hy
      cases j with
      | zero => simp at hj hy; subst hj; subst hy; exact h3
      | succ j => simp at hj hy; exact e3 j c y hj hy
    · intro y hy
      simp at hy
      rcases hy with rfl | hy
      · exact h3.oneCell h1
      · exact e4 y hy
end

theorem splice_get {α : Type} (l vs : List α) (o k : Nat) (h : o + vs.length ≤ l.length) :
    (l.take o ++ vs ++ l.drop (o + vs.length))[k]? = if k < o then l[k]? else if k < o + vs.length then vs[k - o]? else l[k]? := by
  have ht : (l.take o).length = o := by rw [List.length_take]; omega
  by_cases h1 : k < o
  · rw [if_pos h1, List.append_assoc, List.getElem?_append_left (by omega), List.getElem?_take, if_pos h1]
  · rw [if_neg h1]
    by_cases h2 : k < o + vs.length
    · rw [if_pos h2, List.append_assoc, List.getElem?_append_right (by omega), ht, List.getElem?_append_left (by omega)]
    · rw [if_neg h2, List.getElem?_append_right (by simp [ht]; omega), List.getElem?_drop]
      congr 1
      simp [ht]
      omega

section
variable {σ : Nat → Addr} {K : Ctx} {w : World} {base : Nat} {l : List V}

/-- A stretch of a list written over, and the cells likewise. -/
theorem CellsAt.splice {cs : List Value} (h : CellsAt σ K w (fun k => cs[k]?) base l) {new : List V} {vs : List Value} (o : Nat) (hl : o + new.length ≤ l.length) (hlen : vs.length = new.length)
    (hb : base + l.length ≤ cs.length) (hnew : ∀ c ∈ new, c.isCell = true) (hr : ∀ (j : Nat) c x, new[j]? = some c → vs[j]? = some x → Rel σ K w c x) :
    CellsAt σ K w (fun k => (cs.take (base + o) ++ vs ++ cs.drop (base + o + vs.length))[k]?) base (l.take o ++ new ++ l.drop (o + new.length)) := by
  intro j c hj
  rw [splice_get _ _ _ _ hl] at hj
  have hs := splice_get cs vs (base + o) (base + j) (by omega)
  simp only [hs]
  by_cases h1 : j < o
  · rw [if_pos h1] at hj
    rw [if_pos (by omega)]
    exact h j c hj
  · rw [if_neg h1] at hj
    rw [if_neg (by omega)]
    by_cases h2 : j < o + new.length
    · rw [if_pos h2] at hj
      rw [if_pos (by omega), show base + j - (base + o) = j - o by omega]
      have hx : j - o < vs.length := by omega
      exact ⟨hnew c (List.mem_of_getElem? hj), vs[j - o], List.getElem?_eq_getElem hx, hr (j - o) c _ hj (List.getElem?_eq_getElem hx)⟩
    · rw [if_neg h2] at hj
      rw [if_neg (by omega)]
      exact h j c hj
end

theorem BlkAt.flat {σ : Nat → Addr} {K : Ctx} {w : World} {l : Nat} {b : Blk} (h : BlkAt σ K w l b) :
    ∃ cs e, Lies w (K.ρ l).1 cs e ∧ (K.ρ l).2.1 + b.rows.length * b.sz ≤ cs.size ∧ CellsAt σ K w (fun k => cs.toList[k]?) (K.ρ l).2.1 b.rows.flatten := by
  obtain ⟨cs, e, h1, h2, h3⟩ := h.at_
  exact ⟨cs, e, h1, h2, (rows_flat h.rows).1 (by simpa using h3)⟩

theorem run_storeCells_lies {P : Program} (g o : Nat) (t : TypeId) : ∀ (vs : List Value) (i : Nat) (cur : Array Value) (w : World), Lies w g cur t → o + i + vs.length ≤ cur.size → (∀ v ∈ vs, v.oneCell' = true) →
    (storeCells ⟨g, o, none⟩ vs i).run P w = .ok () (w.setRow g (cur.toList.take (o + i) ++ vs ++ cur.toList.drop (o + i + vs.length)).toArray)
  | [], i, cur, w, hg, _, _ => by
    obtain ⟨f, hf⟩ := hg.row
    simp only [storeCells, List.append_nil, List.length_nil, Nat.add_zero, List.take_append_drop, Array.toArray_toList]
    rw [setRow_self w g cur t f hf]
    rfl
  | v :: rest, i, cur, w, hg, hl, h1 => by
    have hi : o + i < cur.size := by simp at hl; omega
    have hadd : (⟨g, o, none⟩ : Addr).add i = ⟨g, o + i, none⟩ := by unfold Addr.add; split <;> simp_all
    have hcell : w.cell? ⟨g, o + i, none⟩ = some cur[o + i] := by rw [hg.cell]; simp [hi]
    have hfro : w.frozen? ⟨g, o + i, none⟩ = false := by
      obtain ⟨f, hf, hor⟩ := hg
      rcases hor with rfl | hor
      · simp [World.frozen?, hf]
      · simp [World.frozen?, hf]
        omega
    obtain ⟨f, hf⟩ := hg.row
    have hst : (store ((⟨g, o, none⟩ : Addr).add i) v).run P w = .ok () (w.setRow g (cur.setIfInBounds (o + i) v)) := by
      rw [hadd, run_store P w _ v _ (h1 v (by simp)), hcell]
      simp [hfro, setCell_eq_setRow w g (o + i) cur t f v hf]
    have ih := run_storeCells_lies (P := P) g o t rest (i + 1) (cur.setIfInBounds (o + i) v) (w.setRow g (cur.setIfInBounds (o + i) v)) (hg.set (by simp)) (by simp at hl ⊢; omega) (fun x hx => h1 x (by simp [hx]))
    simp only [storeCells, Sem.run_bind, hst, Result.andThen_ok, ih, setRow_setRow]
    congr 3
    have e := list_seg_step cur.toList (o + i) v rest (by simp at hl ⊢; omega)
    simpa [Array.toList_setIfInBounds, Nat.add_assoc] using e

/-- A block written over, flat. -/
theorem Inv.writeFlat {σ : Nat → Addr} {K : Ctx} {H : Heap} {w : World} (inv : Inv σ K H w) {l : Nat} {b : Blk} (hb : H.blk l = some b) (hf : H.floor ≤ l)
    {cs : Array Value} {cs' : List Value} {e : TypeId} {rows : List (List V)} (hcs : Lies w (K.ρ l).1 cs e) (hsz : cs'.length = cs.size)
    (hs : ∀ r ∈ rows, r.length = b.sz) (hroom : (K.ρ l).2.1 + rows.length * b.sz ≤ cs.size)
    (hc : CellsAt σ K w (fun k => cs'[k]?) (K.ρ l).2.1 rows.flatten) :
    Inv σ K (H.set l ⟨b.sz, rows⟩) (w.setRow (K.ρ l).1 cs'.toArray) ∧ Evo K H w K (H.set l ⟨b.sz, rows⟩) (w.setRow (K.ρ l).1 cs'.toArray) :=
  inv.write hb hf hcs (by simpa using hsz) hs (by simpa [hsz] using hroom) (by have := (rows_flat hs).2 hc; simpa using this)

end Go.Fv

/-! Each operation on plain values is the model's operation on what stands for them. -/
namespace Go.Fv
open Go

/-- What the operation gives in the world. -/
def Out (P : Program) (σ : Nat → Addr) (K : Ctx) (H : Heap) (w : World) (s : Sem Next) (v : V) (H' : Heap) : Prop :=
  ∃ x w' K', (s.run P w = .ok (.value x) w' ∨ (s.run P w = .ok .skip w' ∧ x = Go.undef)) ∧ Rel σ K' w' v x ∧ Inv σ K' H' w' ∧ Evo K H w K' H' w'

section
variable {C : Cfg} {σ : Nat → Addr} {K : Ctx} {H H' : Heap} {w : World} {v : V}

theorem Out.same {P : Program} {s : Sem Next} {x : Value} (inv : Inv σ K H w) (hr : s.run P w = .ok (.value x) w) (h : Rel σ K w v x) : Out P σ K H w s v H :=
  ⟨x, w, K, .inl hr, h, inv, .refl _ _ _⟩

theorem lift_eq {α : Type} {o : Option α} {a : α} (h : M.lift o H = some (a, H')) : o = some a ∧ H' = H := by
  cases o with
  | none => simp [M.lift] at h
  | some b => simp [M.lift] at h; exact ⟨by rw [h.1], h.2.symm⟩

theorem info_of_under {P : Program} {t : TypeId} {d : TypeDesc} (h : P.underlying t = some d) : ∃ i, P.info? t = some i := by
  unfold Program.underlying at h
  split at h
  · rename_i hh; exact ⟨_, hh⟩
  · rename_i hh; exact ⟨_, hh⟩
  · cases h

theorem run_sizeOf {P : Program} {t : TypeId} {i : TypeInfo} (h : P.info? t = some i) (w : World) : (sizeOf t).run P w = .ok (P.cellsOf t) w := by
  simp [sizeOf, typeInfo, h, Program.cellsOf]

theorem run_isAgg {P : Program} {t : TypeId} {b : Bool} (h : isAgg P t = some b) (w : World) : (Go.isAgg t).run P w = .ok b w := by
  unfold isAgg at h
  cases hu : P.underlying t with
  | none => rw [hu] at h; cases h
  | some d =>
    rw [hu] at h
    unfold Go.isAgg
    rw [Sem.run_bind, run_underlying hu w]
    cases d <;> simp at h <;> subst h <;> rfl

theorem ok_cells {n : Nat} : ∀ {l : List V} {xs : List Value}, l.length = xs.length → (∀ c ∈ l, c.isCell = true) → (∀ (j : Nat) c x, l[j]? = some c → xs[j]? = some x → Rel σ K w c x) → n = n → Rel σ K w (.agg l) (.agg xs.toArray) := by
  intro l xs h1 h2 h3 _
  exact .agg l xs.toArray (by simpa using h1) h2 (fun i a b ha hb => h3 i a b ha (by simpa using hb))

/-- The place at which a pointer points. -/
theorem place (inv : Inv σ K H w) {p : V} {x : Value} (h : Rel σ K w p x) {row : List V} {o : Nat} (hp : placeV p H = some (row, o)) :
    ∃ b base, x = .pointer (some ⟨b, base + o, none⟩) ∧ CellsAt σ K w (fun k => w.cell? ⟨b, k, none⟩) base row := by
  cases h with
  | ptr l i o' b off sz hl hρ =>
    simp only [placeV] at hp
    cases hb : H.blk l with
    | none => rw [hb] at hp; simp at hp
    | some B =>
      rw [hb] at hp
      simp only [Option.bind_some] at hp
      cases hr : B.rows[i]? with
      | none => rw [hr] at hp; simp at hp
      | some r =>
        rw [hr] at hp
        simp only [Option.bind_some, Option.some.injEq, Prod.mk.injEq] at hp
        obtain ⟨rfl, rfl⟩ := hp
        have h0 := inv.blk l B hb
        obtain ⟨cs, e, h1, h2, h3⟩ := h0.at_
        have hz := h0.sz
        rw [hρ] at h1 h3 hz
        simp only at h1 h3 hz
        subst hz
        refine ⟨b, off + i * B.sz, rfl, fun j c hj => ?_⟩
        obtain ⟨h4, y, h5, h6⟩ := h3 i r j c hr hj
        exact ⟨h4, y, (h1.cell _).trans h5, h6⟩
  | iptr row' o' b off val hI hc hw h =>
    simp only [placeV, Option.some.injEq, Prod.mk.injEq] at hp
    obtain ⟨rfl, rfl⟩ := hp
    exact ⟨b, off, rfl, fun j c hj => ⟨V.cell_of_closed (hc c (List.mem_of_getElem? hj)), val j, hw j c hj, h j c hj⟩⟩
  | _ => simp [placeV] at hp

theorem ok_load (inv : Inv σ K H w) {t : TypeId} {p : V} {x : Value} (hp : Rel σ K w p x) (h : loadT C.P t p H = some (v, H')) :
    ∃ y, (Instr.loadAt t x).run C.P w = .ok y w ∧ Rel σ K w v y ∧ H' = H := by
  unfold loadT at h
  cases ha : isAgg C.P t with
  | none => rw [ha] at h; cases h
  | some ag =>
    rw [ha] at h
    cases hpl : placeV p H with
    | none => cases ag <;> simp [loadN, load1, hpl] at h
    | some ro =>
      obtain ⟨row, o⟩ := ro
      obtain ⟨b, base, rfl, hc⟩ := place inv hp hpl
      have hadd : ∀ j, (⟨b, base + o, none⟩ : Addr).add j = ⟨b, base + o + j, none⟩ := fun j => by unfold Addr.add; split <;> simp_all
      have hag := run_isAgg ha w
      cases ag with
      | true =>
        simp only [loadN, hpl, Option.bind_some] at h
        by_cases hle : o + C.P.cellsOf t ≤ row.length
        · rw [if_pos hle] at h
          injection h with h
          injection h with h1 h2
          subst h1; subst h2
          have hseg := (hc.drop o).take (C.P.cellsOf t)
          obtain ⟨xs, e1, e2, e3, e4⟩ := hseg.vals
          have hlen : xs.length = C.P.cellsOf t := by rw [e1, List.length_take, List.length_drop]; omega
          have hl := run_loadCells_list (P := C.P) w ⟨b, base + o, none⟩ xs (fun j y hy => by rw [hadd]; exact e2 j y hy)
          rw [hlen] at hl
          have hi : ∃ i, C.P.info? t = some i := by
            unfold isAgg at ha
            cases hu : C.P.underlying t with
            | none => rw [hu] at ha; cases ha
            | some d => exact info_of_under hu
          obtain ⟨i, hi⟩ := hi
          refine ⟨.agg xs.toArray, ?_, ok_cells e1.symm hseg.cell e3 (n := 0) rfl, rfl⟩
          simp [Instr.loadAt, Instr.sureAddr, loadVar, hag, run_sizeOf hi, hl]
        · rw [if_neg hle] at h; cases h
      | false =>
        simp only [load1, hpl, Option.bind_some] at h
        cases hv : row[o]? with
        | none => rw [hv] at h; simp at h
        | some c =>
          rw [hv] at h
          simp only [Option.bind_some, Option.some.injEq, Prod.mk.injEq] at h
          obtain ⟨rfl, rfl⟩ := h
          obtain ⟨_, y, h2, h3⟩ := hc o c hv
          refine ⟨y, ?_, h3, rfl⟩
          simp only at h2
          simp [Instr.loadAt, Instr.sureAddr, loadVar, hag, h2]

theorem ok_new (inv : Inv σ K H w) {t : TypeId} {a : V} {x : Value} (hr : Rel σ K w a x) (h : newV a H = some (v, H')) :
    ∃ y w' K', (newVar t x).run C.P w = .ok y w' ∧ Rel σ K' w' v (.pointer (some y)) ∧ Inv σ K' H' w' ∧ Evo K H w K' H' w' := by
  unfold newV at h
  cases hc : a.cells? with
  | none => rw [hc] at h; simp at h
  | some cs =>
    rw [hc] at h
    simp only [Option.bind_some, Option.some.injEq, Prod.mk.injEq] at h
    obtain ⟨rfl, rfl⟩ := h
    obtain ⟨h1, h2, h3⟩ := hr.cells hc
    obtain ⟨K', i', e', hn, hρ, hD⟩ := inv.add t cs.length [cs] x.cells (by simp) (by simp [h1]) (fun i r j c hi hj => by
      cases i with
      | zero =>
        simp at hi; subst hi
        refine ⟨h2 c (List.mem_of_getElem? hj), ?_⟩
        have hlt : j < x.cells.size := by rw [← h1]; exact (List.getElem?_eq_some_iff.1 hj).1
        exact ⟨x.cells[j], by simp [hlt], h3 j c _ hj (by simp [hlt])⟩
      | succ i => simp at hi)
    refine ⟨⟨w.heap.size, 0, none⟩, _, K', by simp [newVar, newRow], ?_, i', e'⟩
    rw [← inv.nx]
    have := Rel.ptr (σ := σ) (K := K') (w := w.alloc (Obj.cells x.cells t)) K.nx 0 0 w.heap.size 0 cs.length hD hρ
    simpa using this

/-- A store. -/
theorem ok_store (inv : Inv σ K H w) {t : TypeId} {p a : V} {x y : Value} (hp : Rel σ K w p x) (ha : Rel σ K w a y) {i : TypeInfo} (hi : C.P.info? t = some i) (h : storeN (C.P.cellsOf t) p a H = some (v, H')) :
    ∃ w', (Instr.storeAt t x y).run C.P w = .ok () w' ∧ v = .undef ∧ Inv σ K H' w' ∧ Evo K H w K H' w' := by
  cases hp with
  | ptr l i' o b off sz hl hρ =>
    simp only [storeN] at h
    by_cases hf : H.floor ≤ l
    · rw [if_pos hf] at h
      cases hc : a.cells? with
      | none => rw [hc] at h; simp at h
      | some cs =>
        rw [hc] at h
        simp only [Option.bind_some] at h
        by_cases hn : cs.length = C.P.cellsOf t
        · rw [if_pos hn] at h
          cases hb : H.blk l with
          | none => rw [hb] at h; simp at h
          | some B =>
            rw [hb] at h
            simp only [Option.bind_some] at h
            cases hr : B.rows[i']? with
            | none => rw [hr] at h; simp at h
            | some r =>
              rw [hr] at h
              simp only [Option.bind_some] at h
              unfold putRow at h
              by_cases hle : o + cs.length ≤ r.length
              · rw [if_pos hle] at h
                simp only [Option.bind_some, Option.some.injEq, Prod.mk.injEq] at h
                obtain ⟨rfl, rfl⟩ := h
                obtain ⟨h1, h2, h3⟩ := ha.cells hc
                have h0 := inv.blk l B hb
                obtain ⟨cur, e, g1, g2, g3⟩ := h0.flat
                have hz := h0.sz
                rw [hρ] at g1 g2 g3 hz
                simp only at g1 g2 g3 hz
                subst hz
                have hrl := h0.rows r (List.mem_of_getElem? hr)
                have hilt : i' < B.rows.length := (List.getElem?_eq_some_iff.1 hr).1
                have hfl := flatten_length B.rows h0.rows
                have hmul : i' * B.sz + B.sz ≤ B.rows.length * B.sz := by
                  have : (i' + 1) * B.sz ≤ B.rows.length * B.sz := Nat.mul_le_mul_right _ hilt
                  rwa [Nat.succ_mul] at this
                have hone : ∀ u ∈ y.cells.toList, u.oneCell' = true := fun u hu => by
                  obtain ⟨j, hj⟩ := List.getElem?_of_mem hu
                  have hlt : j < cs.length := by rw [h1]; simpa using (List.getElem?_eq_some_iff.1 hj).1
                  exact (h3 j cs[j] u (List.getElem?_eq_getElem hlt) (by simpa using hj)).oneCell (h2 _ (List.getElem_mem hlt))
                have hlen : y.cells.toList.length = cs.length := by simpa using h1.symm
                have hst := run_storeCells_lies (P := C.P) b (off + i' * B.sz + o) e y.cells.toList 0 cur w g1 (by rw [hlen]; omega) hone
                have hsp := g3.splice (new := cs) (vs := y.cells.toList) (i' * B.sz + o) (by rw [hfl]; omega) hlen (by rw [hfl]; simpa using g2) h2 (fun j c z hj hz => h3 j c z hj (by simpa using hz))
                rw [← flatten_splice B.rows h0.rows i' o r cs hr hle, ← Nat.add_assoc] at hsp
                have hrows : ∀ r' ∈ B.rows.set i' (r.take o ++ cs ++ r.drop (o + cs.length)), r'.length = B.sz := fun r' h' => by
                  rcases List.mem_or_eq_of_mem_set h' with h' | h'
                  · exact h0.rows r' h'
                  · rw [h']; simp; omega
                simp only [Nat.add_zero] at hst
                generalize hcs' : cur.toList.take (off + i' * B.sz + o) ++ y.cells.toList ++ cur.toList.drop (off + i' * B.sz + o + y.cells.toList.length) = cs' at hst hsp
                have hl' : cs'.length = cur.size := by rw [← hcs']; simp only [List.length_append, List.length_take, List.length_drop, Array.length_toList] at *; omega
                obtain ⟨j1, j2⟩ := inv.writeFlat hb hf (cs := cur) (e := e) (by rw [hρ]; exact g1) hl' hrows (by rw [hρ]; simpa using g2) (by rw [hρ]; exact hsp)
                rw [hρ] at j1 j2
                have hcs : y.cells.size = C.P.cellsOf t := by rw [← h1, hn]
                refine ⟨_, ?_, rfl, j1, j2⟩
                simp [Instr.storeAt, Instr.sureAddr, storeVar, run_sizeOf hi, hcs, hst]
              · rw [if_neg hle] at h; simp at h
        · rw [if_neg hn] at h; cases h
    · rw [if_neg hf] at h; cases h
  | _ => simp [storeN] at h
end
end Go.Fv

/-! Operations, further: without memory. -/
namespace Go.Fv
open Go

section
variable {C : Cfg} {σ : Nat → Addr} {K : Ctx} {H H' : Heap} {w : World} {v : V}

theorem rel_cst (x : Value) : Rel σ K w (cst x) x := by
  unfold cst
  split <;> first | exact .bool _ | exact .int _ _ | exact .str _ | exact .nilp | exact .nils | exact .nili | exact .nilf | exact .undef _

theorem rel_cstV (x : Value) : Rel σ K w (cstV x) x := by
  unfold cstV
  split
  · rename_i cs
    split
    · rename_i h
      refine .agg _ cs (by simp) (by simpa only [List.all_eq_true] using h) ?_
      intro i a b ha hb
      rw [List.getElem?_map] at ha
      rw [Array.getElem?_toList, hb] at ha
      simp at ha
      subst ha
      exact rel_cst b
    · exact .undef _
  · exact rel_cst x

theorem natOf_rel {v : V} {x : Value} {a : Nat} (h : Rel σ K w v x) (hn : natOf v = some a) : ∃ k, x = .int k (a : Int) := by
  cases h with
  | int k n =>
    simp only [natOf] at hn
    split at hn
    · rename_i h0
      injection hn with hn
      exact ⟨k, by rw [← hn, Int.toNat_of_nonneg h0]⟩
    · cases hn
  | _ => simp [natOf] at hn

theorem ok_nilCheck {x : V} {y : Value} (h : Rel σ K w x y) (hv : nilCheckV x = some v) : v = x ∧
    (match y with | .pointer none | .nilIface | .nilFunc => false | .func (.method _) _ _ => false | _ => true) = true := by
  cases h <;> simp_all [nilCheckV]

theorem ok_idx {t el : TypeId} (ht : C.P.underlying t = some (.slice el)) {x i : V} {y j : Value} (hx : Rel σ K w x y) (hi : Rel σ K w i j) (h : idxV (C.P.cellsOf el) x i = some v)
    (hs : ∃ i, C.P.info? el = some i) : ∃ z, (Instr.indexAt t y j).run C.P w = .ok z w ∧ Rel σ K w v z := by
  obtain ⟨inf, hinf⟩ := hs
  cases hi with
  | int k n =>
    cases hx with
    | ref l sz s m c ex a cap b off hl hρ hn hc hex ha =>
      simp only [idxV] at h
      split at h
      · rename_i hh
        obtain ⟨h0, h1, h2⟩ := hh
        injection h with h
        subst h; subst h2
        have hm : 0 < cap := by omega
        obtain ⟨rfl, hr⟩ := ha hm
        refine ⟨.pointer (some ⟨b, off + (s + n.toNat) * C.P.cellsOf el + 0, none⟩), ?_, .ptr _ _ _ _ _ _ hl hρ⟩
        have hadd : (⟨b, off + s * C.P.cellsOf el, none⟩ : Addr).add (n.toNat * C.P.cellsOf el) = ⟨b, off + (s + n.toNat) * C.P.cellsOf el + 0, none⟩ := by
          rw [Nat.add_mul, ← Nat.add_assoc]; unfold Addr.add; split <;> simp_all
        simp [Instr.indexAt, asIntOf, run_underlying ht, h0, h1, run_sizeOf hinf, hadd]
      · cases h
    | imm0 sz a cap => simp [idxV] at h
    | imm sz rows b off cap val hI hcap hs hc hw hr =>
      simp only [idxV] at h
      split at h
      · rename_i hh
        obtain ⟨h0, h2⟩ := hh
        subst h2
        cases hrow : rows[n.toNat]? with
        | none => rw [hrow] at h; simp at h
        | some r =>
          rw [hrow] at h
          simp only [Option.bind_some, Option.some.injEq] at h
          subst h
          have hlt : n.toNat < rows.length := (List.getElem?_eq_some_iff.1 hrow).1
          have h1 : n < (rows.length : Int) := by omega
          refine ⟨.pointer (some ⟨b, off + n.toNat * C.P.cellsOf el + 0, none⟩), ?_, .iptr r 0 b (off + n.toNat * C.P.cellsOf el) (val n.toNat) hI (hc r (List.mem_of_getElem? hrow)) (fun j c hj => hw _ r j c hrow hj) (fun j c hj => hr _ r j c hrow hj)⟩
          have hadd : (⟨b, off, none⟩ : Addr).add (n.toNat * C.P.cellsOf el) = ⟨b, off + n.toNat * C.P.cellsOf el + 0, none⟩ := by
            unfold Addr.add; split <;> simp_all
          simp [Instr.indexAt, asIntOf, run_underlying ht, h0, h1, run_sizeOf hinf, hadd]
      · cases h
    | _ => simp [idxV] at h
  | _ => cases hx <;> simp [idxV] at h

theorem ok_padd {n : Nat} {x : V} {y : Value} (hx : Rel σ K w x y) (h : padd n x = some v) : ∃ a : Addr, y = .pointer (some a) ∧ Rel σ K w v (.pointer (some (a.add n))) := by
  have hadd : ∀ (b o : Nat), (⟨b, o, none⟩ : Addr).add n = ⟨b, o + n, none⟩ := fun b o => by unfold Addr.add; split <;> simp_all
  cases hx with
  | ptr l i o b off sz hl hρ =>
    simp only [padd, Option.some.injEq] at h
    subst h
    refine ⟨_, rfl, ?_⟩
    rw [hadd, Nat.add_assoc]
    exact .ptr l i (o + n) b off sz hl hρ
  | iptr row o b off val hI hc hw hr =>
    simp only [padd, Option.some.injEq] at h
    subst h
    refine ⟨_, rfl, ?_⟩
    rw [hadd, Nat.add_assoc]
    exact .iptr row (o + n) b off val hI hc hw hr
  | _ => simp [padd] at h

theorem ok_aidx {t el : TypeId} {len : Nat} (ht : C.P.underlying t = some (.array len el)) {x i : V} {y j : Value} (hx : Rel σ K w x y) (hi : Rel σ K w i j) (h : aidxV len (C.P.cellsOf el) x i = some v)
    (hs : ∃ i, C.P.info? el = some i) : ∃ z, (Instr.indexAt t y j).run C.P w = .ok z w ∧ Rel σ K w v z := by
  obtain ⟨inf, hinf⟩ := hs
  cases hi with
  | int k n =>
    simp only [aidxV] at h
    split at h
    · rename_i hh
      obtain ⟨a, rfl, hr⟩ := ok_padd hx h
      exact ⟨_, by simp [Instr.indexAt, Instr.sureAddr, asIntOf, run_underlying ht, hh.1, hh.2, run_sizeOf hinf], hr⟩
    · cases h
  | _ => simp [aidxV] at h

theorem ok_lenS {t ty : TypeId} (ht : C.P.underlying t = some .string) {x : V} {y : Value} (hx : Rel σ K w x y) (h : lenS x = some v) : ∃ z, (Builtin.len_ #[t] ty #[y]).run C.P w = .ok z w ∧ Rel σ K w v z := by
  cases hx <;> simp [lenS] at h
  subst h
  exact ⟨_, by simp [Builtin.len_, run_underlying ht]; rfl, .int _ _⟩

theorem ok_len {t ty e : TypeId} (ht : C.P.underlying t = some (.slice e)) {x : V} {y : Value} (hx : Rel σ K w x y) (h : lenV x = some v) : ∃ z, (Builtin.len_ #[t] ty #[y]).run C.P w = .ok z w ∧ Rel σ K w v z := by
  cases hx <;> simp [lenV] at h <;> (subst h; exact ⟨_, by simp [Builtin.len_, run_underlying ht]; rfl, .int _ _⟩)

theorem ok_slS {t : TypeId} (ht : C.P.underlying t = some .string) {x : V} {y : Value} {lo hi : Option V} {lo' hi' : Option Value} (hx : Rel σ K w x y)
    (hlo : (lo = none ∧ lo' = none) ∨ ∃ a b, lo = some a ∧ lo' = some b ∧ Rel σ K w a b) (hhi : (hi = none ∧ hi' = none) ∨ ∃ a b, hi = some a ∧ hi' = some b ∧ Rel σ K w a b)
    (h : slS x lo hi = some v) : ∃ z, (Instr.slice t y lo' hi' none).run C.P w = .ok z w ∧ Rel σ K w v z := by
  cases hx with
  | str s =>
    simp only [slS] at h
    cases ea : optNat lo 0 with
    | none => rw [ea] at h; simp at h
    | some p =>
      rw [ea] at h
      simp only [Option.bind_some] at h
      cases eb : optNat hi s.size with
      | none => rw [eb] at h; simp at h
      | some q =>
        rw [eb] at h
        simp only [Option.bind_some] at h
        split at h
        · rename_i hh
          obtain ⟨h1, h2⟩ := hh
          injection h with h
          subst h
          refine ⟨.string (s.extract p q), ?_, .str _⟩
          rcases hlo with ⟨rfl, rfl⟩ | ⟨u, u', rfl, rfl, hu⟩ <;> rcases hhi with ⟨rfl, rfl⟩ | ⟨z, z', rfl, rfl, hz⟩
          · simp [optNat] at ea eb; subst ea; subst eb; simp [Instr.slice, run_underlying ht, Instr.sliceBounds]
          · simp [optNat] at ea; subst ea; obtain ⟨k, rfl⟩ := natOf_rel hz eb
            simp [Instr.slice, run_underlying ht, Instr.sliceBounds, Instr.sliceBound, asIntOf, h2]
          · simp [optNat] at eb; subst eb; obtain ⟨k, rfl⟩ := natOf_rel hu ea
            simp [Instr.slice, run_underlying ht, Instr.sliceBounds, Instr.sliceBound, asIntOf, h1]
          · obtain ⟨k, rfl⟩ := natOf_rel hu ea; obtain ⟨k', rfl⟩ := natOf_rel hz eb
            simp [Instr.slice, run_underlying ht, Instr.sliceBounds, Instr.sliceBound, asIntOf, h1, h2]
        · cases h
  | _ => simp [slS] at h

/-- Slices of slices. -/
theorem ok_slice {t el : TypeId} (ht : C.P.underlying t = some (.slice el)) {x : V} {y : Value} {lo hi mx : Option V} {lo' hi' mx' : Option Value} (hx : Rel σ K w x y)
    (hlo : (lo = none ∧ lo' = none) ∨ ∃ a b, lo = some a ∧ lo' = some b ∧ Rel σ K w a b) (hhi : (hi = none ∧ hi' = none) ∨ ∃ a b, hi = some a ∧ hi' = some b ∧ Rel σ K w a b)
    (hmx : (mx = none ∧ mx' = none) ∨ ∃ a b, mx = some a ∧ mx' = some b ∧ Rel σ K w a b) (hgo : mx = none ∨ hi.isSome = true)
    (h : slV (C.P.cellsOf el) x lo hi mx = some v) (hs : ∃ i, C.P.info? el = some i) : ∃ z, (Instr.slice t y lo' hi' mx').run C.P w = .ok z w ∧ Rel σ K w v z := by
  obtain ⟨inf, hinf⟩ := hs
  -- the bounds, whatever they are
  have bounds : ∀ (len cap a b : Nat), optNat lo 0 = some a → optNat hi len = some b → a ≤ b → b ≤ len → len ≤ cap →
      (mx = none → (Instr.sliceBounds true len cap lo' hi' mx').run C.P w = .ok (a, b, cap) w) ∧
      (∀ m0 m, mx = some m0 → natOf m0 = some m → b ≤ m → m ≤ cap → (Instr.sliceBounds true len cap lo' hi' mx').run C.P w = .ok (a, b, m) w) := by
    intro len cap a b ha hb hab hbl hlc
    have hbc : b ≤ cap := by omega
    constructor
    · intro hm
      rcases hmx with ⟨rfl, rfl⟩ | ⟨p, q, rfl, rfl, hpq⟩
      · rcases hlo with ⟨rfl, rfl⟩ | ⟨p, q, rfl, rfl, hpq⟩ <;> rcases hhi with ⟨rfl, rfl⟩ | ⟨p', q', rfl, rfl, hpq'⟩
        · simp [optNat] at ha hb; subst ha; subst hb; simp [Instr.sliceBounds]
        · simp [optNat] at ha; subst ha; obtain ⟨k, rfl⟩ := natOf_rel hpq' hb
          simp [Instr.sliceBounds, Instr.sliceBound, asIntOf, hbc]
        · simp [optNat] at hb; subst hb; obtain ⟨k, rfl⟩ := natOf_rel hpq ha
          simp [Instr.sliceBounds, Instr.sliceBound, asIntOf, hab]
        · obtain ⟨k, rfl⟩ := natOf_rel hpq ha; obtain ⟨k', rfl⟩ := natOf_rel hpq' hb
          simp [Instr.sliceBounds, Instr.sliceBound, asIntOf, hab, hbc]
      · cases hm
    · intro m0 m hm hm0 hbm hmc
      rcases hmx with ⟨rfl, rfl⟩ | ⟨p, q, rfl, rfl, hpq⟩
      · cases hm
      · injection hm with hm
        subst hm
        obtain ⟨km, rfl⟩ := natOf_rel hpq hm0
        rcases hlo with ⟨rfl, rfl⟩ | ⟨p, q, rfl, rfl, hpq⟩ <;> rcases hhi with ⟨rfl, rfl⟩ | ⟨p', q', rfl, rfl, hpq'⟩
        · simp at hgo
        · simp [optNat] at ha; subst ha; obtain ⟨k, rfl⟩ := natOf_rel hpq' hb
          simp [Instr.sliceBounds, Instr.sliceBound, asIntOf, hbm, hmc]
        · simp at hgo
        · obtain ⟨k, rfl⟩ := natOf_rel hpq ha; obtain ⟨k', rfl⟩ := natOf_rel hpq' hb
          simp [Instr.sliceBounds, Instr.sliceBound, asIntOf, hab, hbm, hmc]
  cases hx with
  | ref l sz s n c ex a cap b off hl hρ hn hc hex ha =>
    simp only [slV] at h
    cases ea : optNat lo 0 with
    | none => rw [ea] at h; simp at h
    | some p =>
      rw [ea] at h
      simp only [Option.bind_some] at h
      cases eb : optNat hi n with
      | none => rw [eb] at h; simp at h
      | some q =>
        rw [eb] at h
        simp only [Option.bind_some] at h
        split at h
        · rename_i hh
          obtain ⟨h1, h2, h3⟩ := hh
          subst h1
          obtain ⟨b1, b2⟩ := bounds n cap p q ea eb h2 h3 (by omega)
          have hadd : ∀ k, 0 < cap → a.add (k * C.P.cellsOf el) = ⟨b, off + (s + k) * C.P.cellsOf el, none⟩ := fun k h0 => by
            obtain ⟨rfl, _⟩ := ha h0
            rw [Nat.add_mul, ← Nat.add_assoc]; unfold Addr.add; split <;> simp_all
          cases mx with
          | none =>
            simp only [Option.some.injEq] at h
            subst h
            have hb := b1 rfl
            refine ⟨_, by simp only [Instr.slice, Sem.run_bind, run_underlying ht, Result.andThen_ok, hb, run_sizeOf hinf, Sem.run_pure]; rfl, ?_⟩
            have : ∃ a', (if cap = p then (some a) else (some a).map (·.add (p * C.P.cellsOf el))) = some a' ∧ (0 < cap - p → a' = ⟨b, off + (s + p) * C.P.cellsOf el, none⟩) := by
              by_cases e : cap = p
              · exact ⟨a, by rw [if_pos e], fun h0 => by omega⟩
              · exact ⟨a.add (p * C.P.cellsOf el), by rw [if_neg e]; rfl, fun h0 => hadd p (by omega)⟩
            obtain ⟨a', e1, e2⟩ := this
            rw [e1]
            exact .ref l _ (s + p) (q - p) (c - p) ex a' (cap - p) b off hl hρ (by omega) (by omega) (fun he => by rw [hex he]) (fun h0 => ⟨e2 h0, by
              have := (ha (by omega)).2
              rwa [show s + p + (cap - p) = s + cap by omega]⟩)
          | some m0 =>
            simp only at h
            cases em : natOf m0 with
            | none => rw [em] at h; simp at h
            | some m =>
              rw [em] at h
              simp only [Option.bind_some] at h
              split at h
              · rename_i hh
                obtain ⟨g1, g2⟩ := hh
                injection h with h
                have hb := b2 m0 m rfl em g1 (by omega)
                refine ⟨_, by simp only [Instr.slice, Sem.run_bind, run_underlying ht, Result.andThen_ok, hb, run_sizeOf hinf, Sem.run_pure]; rfl, ?_⟩
                by_cases e : m = p
                · rw [if_pos e] at h
                  subst h
                  rw [if_pos e, show q - p = 0 by omega, show m - p = 0 by omega]
                  exact .emp a
                · rw [if_neg e] at h
                  subst h
                  rw [if_neg e]
                  simp only [Option.map_some]
                  rw [hadd p (by omega)]
                  refine .ref l _ (s + p) (q - p) (m - p) true _ (m - p) b off hl hρ (by omega) (Nat.le_refl _) (fun _ => rfl) (fun h0 => ⟨rfl, ?_⟩)
                  obtain ⟨cs, e', f, r1, r2⟩ := (ha (by omega)).2
                  refine ⟨cs, e', f, r1, Nat.le_trans (Nat.add_le_add_left (Nat.mul_le_mul_right _ ?_) _) r2⟩
                  omega
              · cases h
        · cases h
  | imm0 sz a cap =>
    simp only [slV, List.length_nil] at h
    cases ea : optNat lo 0 with
    | none => rw [ea] at h; simp at h
    | some p =>
      rw [ea] at h
      simp only [Option.bind_some] at h
      cases eb : optNat hi 0 with
      | none => rw [eb] at h; simp at h
      | some q =>
        rw [eb] at h
        simp only [Option.bind_some] at h
        split at h
        · rename_i hh
          obtain ⟨h1, h2, h3⟩ := hh
          subst h1
          obtain ⟨b1, b2⟩ := bounds 0 cap p q ea eb h2 h3 (by omega)
          have hp : p = 0 := by omega
          have hq : q = 0 := by omega
          subst hp; subst hq
          cases mx with
          | none =>
            simp only [Option.some.injEq] at h
            subst h
            have hb := b1 rfl
            refine ⟨_, by simp only [Instr.slice, Sem.run_bind, run_underlying ht, Result.andThen_ok, hb, run_sizeOf hinf, Sem.run_pure]; rfl, ?_⟩
            split <;> simp <;> exact .imm0 _ _ _
          | some m0 =>
            simp only at h
            cases em : natOf m0 with
            | none => rw [em] at h; simp at h
            | some m =>
              rw [em] at h
              simp only [Option.bind_some] at h
              split at h
              · rename_i hh
                have hm : m = 0 := by omega
                subst hm
                injection h with h
                rw [if_pos rfl] at h
                subst h
                have hb := b2 m0 0 rfl em (by omega) (by omega)
                refine ⟨_, by simp only [Instr.slice, Sem.run_bind, run_underlying ht, Result.andThen_ok, hb, run_sizeOf hinf, Sem.run_pure]; rfl, ?_⟩
                exact .emp a
              · cases h
        · cases h
  | imm sz rows b off cap val hI hcap hs hc hw hr =>
    simp only [slV] at h
    cases ea : optNat lo 0 with
    | none => rw [ea] at h; simp at h
    | some p =>
      rw [ea] at h
      simp only [Option.bind_some] at h
      cases eb : optNat hi rows.length with
      | none => rw [eb] at h; simp at h
      | some q =>
        rw [eb] at h
        simp only [Option.bind_some] at h
        split at h
        · rename_i hh
          obtain ⟨h1, h2, h3⟩ := hh
          subst h1
          obtain ⟨b1, b2⟩ := bounds rows.length cap p q ea eb h2 h3 hcap
          have hadd : (⟨b, off, none⟩ : Addr).add (p * C.P.cellsOf el) = ⟨b, off + p * C.P.cellsOf el, none⟩ := by unfold Addr.add; split <;> simp_all
          have hlen : ((rows.drop p).take (q - p)).length = q - p := by rw [List.length_take, List.length_drop]; omega
          have sub : ∀ (a' : Addr) (cap' : Nat), (q - p ≤ cap') → (0 < q - p → a' = ⟨b, off + p * C.P.cellsOf el, none⟩) → Rel σ K w (.imm (C.P.cellsOf el) ((rows.drop p).take (q - p))) (.slice (some a') (q - p) cap') := by
            intro a' cap' hc' he
            by_cases e0 : q - p = 0
            · rw [e0, List.take_zero]; exact .imm0 _ _ _
            · rw [he (by omega)]
              have get : ∀ (i : Nat) r, ((rows.drop p).take (q - p))[i]? = some r → rows[p + i]? = some r := fun i r hi => by
                rw [List.getElem?_take] at hi
                split at hi
                · rwa [List.getElem?_drop] at hi
                · cases hi
              have hk := Rel.imm (σ := σ) (K := K) (w := w) (C.P.cellsOf el) ((rows.drop p).take (q - p)) b (off + p * C.P.cellsOf el) cap' (fun i j => val (p + i) j) hI (by rw [hlen]; exact hc')
                (fun r hr' => by obtain ⟨i, hi⟩ := List.getElem?_of_mem hr'; exact hs r (List.mem_of_getElem? (get i r hi)))
                (fun r hr' => by obtain ⟨i, hi⟩ := List.getElem?_of_mem hr'; exact hc r (List.mem_of_getElem? (get i r hi)))
                (fun i r j c hi hj => by have := hw (p + i) r j c (get i r hi) hj; rwa [show off + (p + i) * C.P.cellsOf el + j = off + p * C.P.cellsOf el + i * C.P.cellsOf el + j by rw [Nat.add_mul]; omega] at this)
                (fun i r j c hi hj => hr (p + i) r j c (get i r hi) hj)
              rwa [hlen] at hk
          cases mx with
          | none =>
            simp only [Option.some.injEq] at h
            subst h
            have hb := b1 rfl
            refine ⟨_, by simp only [Instr.slice, Sem.run_bind, run_underlying ht, Result.andThen_ok, hb, run_sizeOf hinf, Sem.run_pure]; rfl, ?_⟩
            by_cases e : cap = p
            · rw [if_pos e]; exact sub _ _ (by omega) (fun h0 => by omega)
            · rw [if_neg e]; simp only [Option.map_some]; exact sub _ _ (by omega) (fun _ => hadd)
          | some m0 =>
            simp only at h
            cases em : natOf m0 with
            | none => rw [em] at h; simp at h
            | some m =>
              rw [em] at h
              simp only [Option.bind_some] at h
              split at h
              · rename_i hh
                obtain ⟨g1, g2⟩ := hh
                injection h with h
                have hb := b2 m0 m rfl em g1 (by omega)
                refine ⟨_, by simp only [Instr.slice, Sem.run_bind, run_underlying ht, Result.andThen_ok, hb, run_sizeOf hinf, Sem.run_pure]; rfl, ?_⟩
                by_cases e : m = p
                · rw [if_pos e] at h
                  subst h
                  rw [if_pos e, show q - p = 0 by omega, show m - p = 0 by omega]
                  exact .emp _
                · rw [if_neg e] at h
                  subst h
                  rw [if_neg e]; simp only [Option.map_some]; exact sub _ _ (by omega) (fun _ => hadd)
              · cases h
        · cases h
  | nils =>
    simp only [slV] at h
    cases ea : optNat lo 0 with
    | none => rw [ea] at h; simp at h
    | some p =>
      rw [ea] at h
      simp only [Option.bind_some] at h
      cases eb : optNat hi 0 with
      | none => rw [eb] at h; simp at h
      | some q =>
        rw [eb] at h
        simp only [Option.bind_some] at h
        cases em : optNat mx 0 with
        | none => rw [em] at h; simp at h
        | some m =>
          rw [em] at h
          simp only [Option.bind_some] at h
          split at h
          · rename_i hh
            obtain ⟨rfl, rfl, rfl⟩ := hh
            injection h with h
            subst h
            obtain ⟨b1, b2⟩ := bounds 0 0 0 0 ea eb (Nat.le_refl _) (Nat.le_refl _) (Nat.le_refl _)
            have hb : (Instr.sliceBounds true 0 0 lo' hi' mx').run C.P w = .ok (0, 0, 0) w := by
              cases mx with
              | none => exact b1 rfl
              | some m0 => exact b2 m0 0 rfl em (Nat.le_refl _) (Nat.le_refl _)
            exact ⟨_, by simp only [Instr.slice, Sem.run_bind, run_underlying ht, Result.andThen_ok, hb, run_sizeOf hinf, Sem.run_pure]; rfl, .nils⟩
          · cases h
  | emp a =>
    simp only [slV] at h
    cases ea : optNat lo 0 with
    | none => rw [ea] at h; simp at h
    | some p =>
      rw [ea] at h
      simp only [Option.bind_some] at h
      cases eb : optNat hi 0 with
      | none => rw [eb] at h; simp at h
      | some q =>
        rw [eb] at h
        simp only [Option.bind_some] at h
        cases em : optNat mx 0 with
        | none => rw [em] at h; simp at h
        | some m =>
          rw [em] at h
          simp only [Option.bind_some] at h
          split at h
          · rename_i hh
            obtain ⟨rfl, rfl, rfl⟩ := hh
            injection h with h
            subst h
            obtain ⟨b1, b2⟩ := bounds 0 0 0 0 ea eb (Nat.le_refl _) (Nat.le_refl _) (Nat.le_refl _)
            have hb : (Instr.sliceBounds true 0 0 lo' hi' mx').run C.P w = .ok (0, 0, 0) w := by
              cases mx with
              | none => exact b1 rfl
              | some m0 => exact b2 m0 0 rfl em (Nat.le_refl _) (Nat.le_refl _)
            exact ⟨_, by simp only [Instr.slice, Sem.run_bind, run_underlying ht, Result.andThen_ok, hb, run_sizeOf hinf, Sem.run_pure]; rfl, .emp a⟩
          · cases h
  | _ => simp [slV] at h
end
end Go.Fv

/-! Operations, further: numbers, tests, parts. -/
namespace Go.Fv
open Go

section
variable {C : Cfg} {σ : Nat → Addr} {K : Ctx} {H H' : Heap} {w : World} {v : V}

theorem ok_arith {op : BinOp} {t : TypeId} {p q : Operand} {x y : V} {a b : Value} (hx : Rel σ K w x a) (hy : Rel σ K w y b) (h : arithV op x y = some v) :
    ∃ z, (do eqGuard op t p q a b; binOp op t a b : Sem Value).run C.P w = .ok z w ∧ Rel σ K w v z := by
  cases hx with
  | int k m =>
    cases hy with
    | int k' n =>
      have kk : ∀ {o : Option V} , (if k = k' then o else none) = some v → k = k' ∧ o = some v := fun h => by
        split at h
        · rename_i e; exact ⟨e, h⟩
        · cases h
      cases op <;> simp only [arithV, reduceCtorEq] at h
      case add => obtain ⟨rfl, h1⟩ := kk h; injection h1 with h1; subst h1; exact ⟨_, by simp [eqGuard, binOp, Op.intArith] <;> rfl, .int _ _⟩
      case sub => obtain ⟨rfl, h1⟩ := kk h; injection h1 with h1; subst h1; exact ⟨_, by simp [eqGuard, binOp, Op.intArith] <;> rfl, .int _ _⟩
      case mul => obtain ⟨rfl, h1⟩ := kk h; injection h1 with h1; subst h1; exact ⟨_, by simp [eqGuard, binOp, Op.intArith] <;> rfl, .int _ _⟩
      case and => obtain ⟨rfl, h1⟩ := kk h; injection h1 with h1; subst h1; exact ⟨_, by simp [eqGuard, binOp, Op.intBits] <;> rfl, .int _ _⟩
      case or => obtain ⟨rfl, h1⟩ := kk h; injection h1 with h1; subst h1; exact ⟨_, by simp [eqGuard, binOp, Op.intBits] <;> rfl, .int _ _⟩
      case xor => obtain ⟨rfl, h1⟩ := kk h; injection h1 with h1; subst h1; exact ⟨_, by simp [eqGuard, binOp, Op.intBits] <;> rfl, .int _ _⟩
      case lss => obtain ⟨rfl, h1⟩ := kk h; injection h1 with h1; subst h1; exact ⟨_, by simp [eqGuard, binOp, Op.intCmp] <;> rfl, .bool _⟩
      case leq => obtain ⟨rfl, h1⟩ := kk h; injection h1 with h1; subst h1; exact ⟨_, by simp [eqGuard, binOp, Op.intCmp] <;> rfl, .bool _⟩
      case gtr => obtain ⟨rfl, h1⟩ := kk h; injection h1 with h1; subst h1; exact ⟨_, by simp [eqGuard, binOp, Op.intCmp] <;> rfl, .bool _⟩
      case geq => obtain ⟨rfl, h1⟩ := kk h; injection h1 with h1; subst h1; exact ⟨_, by simp [eqGuard, binOp, Op.intCmp] <;> rfl, .bool _⟩
      case quo =>
        split at h
        · rename_i e; obtain ⟨rfl, h0⟩ := e; injection h with h; subst h
          exact ⟨_, by simp [eqGuard, binOp, Op.intDiv, h0] <;> rfl, .int _ _⟩
        · cases h
      case rem =>
        split at h
        · rename_i e; obtain ⟨rfl, h0⟩ := e; injection h with h; subst h
          exact ⟨_, by simp [eqGuard, binOp, Op.intDiv, h0] <;> rfl, .int _ _⟩
        · cases h
      case shl =>
        split at h
        · cases h
        · rename_i e; injection h with h; subst h
          exact ⟨_, by simp [eqGuard, binOp, Op.shift, e] <;> rfl, .int _ _⟩
      case shr =>
        split at h
        · cases h
        · rename_i e; injection h with h; subst h
          exact ⟨_, by simp [eqGuard, binOp, Op.shift, e] <;> rfl, .int _ _⟩
    | _ => simp [arithV] at h
  | str s =>
    cases hy with
    | str u =>
      cases op <;> simp only [arithV, reduceCtorEq] at h
      case add =>
        split at h
        · cases h
        · rename_i hk; injection h with h; subst h
          refine ⟨.string (s ++ u), ?_, .str _⟩
          have hk' : ¬ ((s.size : Int) + (u.size : Int) > IntKind.i64.max) := by simpa using hk
          have hm : IntKind.i64.max = 9223372036854775807 := by decide
          rw [hm] at hk'
          simp [eqGuard, binOp, Op.stringOp]
          omega
      case lss => injection h with h; subst h; exact ⟨_, by simp [eqGuard, binOp, Op.stringOp] <;> rfl, .bool _⟩
    | _ => simp [arithV] at h
  | _ => simp [arithV] at h

theorem ok_un {op : UnOp} {x : V} {a : Value} (hx : Rel σ K w x a) (h : unV op x = some v) : ∃ z, (Op.unary op a).run C.P w = .ok z w ∧ Rel σ K w v z := by
  cases hx <;> cases op <;> simp only [unV, reduceCtorEq] at h
  case bool.not b => injection h with h; subst h; exact ⟨_, by simp [Op.unary] <;> rfl, .bool _⟩
  case int.neg k n => injection h with h; subst h; exact ⟨_, by simp only [Op.unary, Op.intArith]; rfl, .int _ _⟩
  case int.xor k n => injection h with h; subst h; exact ⟨_, by simp only [Op.unary, Op.intBits]; rfl, .int _ _⟩

theorem ok_conv {s d : TypeId} {x : V} {a : Value} (hx : Rel σ K w x a) (h : convV C.P s d x = some v) : ∃ z, (convert s d a).run C.P w = .ok z w ∧ Rel σ K w v z := by
  unfold convV at h
  split at h
  · rename_i k hs hd
    rename_i ds
    cases hx <;> simp [convI] at h
    subst h
    exact ⟨_, by simp [convert, run_underlying hs, run_underlying hd, Conv.intToInt] <;> rfl, .int _ _⟩
  · rename_i hs hd
    cases hx <;> simp [convS] at h
    subst h
    exact ⟨_, by simp [convert, run_underlying hs, run_underlying hd] <;> rfl, .str _⟩
  · cases h

theorem ok_iface {t : TypeId} {x : V} {a : Value} (hx : Rel σ K w x a) (ht : isIface C.P t = false) (h : ifaceV t x = some v) : ∃ z, (Instr.makeInterface t a).run C.P w = .ok z w ∧ Rel σ K w v z := by
  have hu : ∃ d, C.P.underlying t = some d ∧ ∀ ms, d ≠ .interface ms := by
    unfold isIface at ht
    cases hh : C.P.underlying t with
    | none => rw [hh] at ht; cases ht
    | some d => exact ⟨d, rfl, fun ms e => by rw [hh, e] at ht; cases ht⟩
  obtain ⟨d, hd, hn⟩ := hu
  have hr : (Instr.makeInterface t a).run C.P w = .ok (.iface t a) w := by
    unfold Instr.makeInterface
    rw [Sem.run_bind, run_underlying hd]
    cases d <;> first | rfl | exact absurd rfl (hn _)
  unfold ifaceV at h
  refine ⟨_, hr, ?_⟩
  by_cases hc : x.isCell = true
  · rw [if_pos hc] at h
    injection h with h
    subst h
    exact .iface t x a (by cases x <;> simp_all [V.isCell, V.cells?]) hx
  · rw [if_neg hc] at h
    cases x <;> simp at h
    subst h
    exact .iface t _ a rfl hx

theorem ok_extract {x : V} {i : Nat} {a : Value} (hx : Rel σ K w x a) (h : extractV x i = some v) : ∃ z, (Instr.extract a i).run C.P w = .ok z w ∧ Rel σ K w v z := by
  cases hx with
  | tuple l cs hl hr =>
    simp only [extractV] at h
    have hlt : i < cs.size := by rw [← hl]; exact (List.getElem?_eq_some_iff.1 h).1
    exact ⟨cs[i], by simp [Instr.extract, hlt], hr i v _ h (by simp [hlt])⟩
  | _ => simp [extractV] at h

theorem ok_pick {c x y : V} {a b d : Value} (hc : Rel σ K w c a) (hx : Rel σ K w x b) (hy : Rel σ K w y d) (h : pickV c x y = some v) :
    ∃ t, a = .bool t ∧ Rel σ K w v (if t then b else d) := by
  cases hc <;> simp [pickV] at h
  rename_i t
  subst h
  refine ⟨t, rfl, ?_⟩
  cases t <;> simpa

theorem ok_indexS {t : TypeId} (ht : C.P.underlying t = some .string) {x i : V} {a b : Value} (hx : Rel σ K w x a) (hi : Rel σ K w i b) (h : indexS x i = some v) : ∃ z, (Instr.index t a b).run C.P w = .ok z w ∧ Rel σ K w v z := by
  cases hx with
  | str s =>
    cases hi with
    | int k n =>
      simp only [indexS] at h
      split at h
      · rename_i h0
        cases hb : s[n.toNat]? with
        | none => rw [hb] at h; simp at h
        | some u =>
          rw [hb] at h
          simp only [Option.bind_some, Option.some.injEq] at h
          subst h
          exact ⟨_, by simp only [Instr.index, asIntOf, Sem.run_bind, Sem.run_pure, Result.andThen_ok, run_underlying ht, if_pos h0, hb] <;> rfl, .int _ _⟩
      · cases h
    | _ => simp [indexS] at h
  | _ => simp [indexS] at h

/-- A part of an aggregate. -/
theorem ok_part {t : TypeId} {ag : Bool} (ht : isAgg C.P t = some ag) {l : List V} {cs : Array Value} (hx : Rel σ K w (.agg l) (.agg cs)) (off : Nat)
    (h : (if ag then (if off + C.P.cellsOf t ≤ l.length then some (V.agg ((l.drop off).take (C.P.cellsOf t))) else none) else l[off]?) = some v) :
    ∃ z, (part t cs off).run C.P w = .ok z w ∧ Rel σ K w v z := by
  cases hx with
  | agg l cs hl hc hr =>
    have hag := run_isAgg ht w
    have hi : ∃ i, C.P.info? t = some i := by
      unfold isAgg at ht
      cases hu : C.P.underlying t with
      | none => rw [hu] at ht; cases ht
      | some d => exact info_of_under hu
    obtain ⟨i, hi⟩ := hi
    cases ag with
    | true =>
      simp only [if_true] at h
      split at h
      · rename_i hle
        injection h with h
        subst h
        refine ⟨.agg (cs.extract off (off + C.P.cellsOf t)), by simp [part, hag, run_sizeOf hi], .agg _ _ ?_ ?_ ?_⟩
        · simp; omega
        · intro a ha
          exact hc a (List.mem_of_mem_drop (List.mem_of_mem_take ha))
        · intro j a b ha hb
          rw [List.getElem?_take] at ha
          split at ha
          · rw [List.getElem?_drop] at ha
            refine hr (off + j) a b ha ?_
            rw [Array.getElem?_extract] at hb
            split at hb
            · exact hb
            · cases hb
          · cases ha
      · cases h
    | false =>
      simp only [Bool.false_eq_true, if_false] at h
      have hlt : off < cs.size := by rw [← hl]; exact (List.getElem?_eq_some_iff.1 h).1
      exact ⟨cs[off], by simp [part, hag, hlt], hr off v _ h (by simp [hlt])⟩

theorem ok_field {s : TypeId} {fs : Array Field} {f : Nat} {fd : Field} {ag : Bool} (hs : C.P.underlying s = some (.struct fs)) (hf : fs[f]? = some fd) (ht : isAgg C.P fd.type = some ag) {x : V} {a : Value}
    (hx : Rel σ K w x a) (h : fieldV fd.offset (C.P.cellsOf fd.type) ag x = some v) : ∃ z, (Instr.field s a f).run C.P w = .ok z w ∧ Rel σ K w v z := by
  cases x with
  | agg l =>
    cases hx with
    | agg l cs hl hc hr =>
      obtain ⟨z, h1, h2⟩ := ok_part ht (Rel.agg l cs hl hc hr) fd.offset h
      exact ⟨z, by simp [Instr.field, run_underlying hs, hf, asAgg, h1], h2⟩
  | _ => simp [fieldV] at h

theorem ok_indexA {t el : TypeId} {len : Nat} {ag : Bool} (ht : C.P.underlying t = some (.array len el)) (ha : isAgg C.P el = some ag) {x i : V} {a b : Value} (hx : Rel σ K w x a) (hi : Rel σ K w i b)
    (h : indexA len (C.P.cellsOf el) ag x i = some v) : ∃ z, (Instr.index t a b).run C.P w = .ok z w ∧ Rel σ K w v z := by
  cases hi with
  | int k n =>
    cases x with
    | agg l =>
      cases hx with
      | agg l cs hl hc hr =>
        simp only [indexA] at h
        split at h
        · rename_i hh
          obtain ⟨z, h1, h2⟩ := ok_part ha (Rel.agg l cs hl hc hr) (n.toNat * C.P.cellsOf el) h
          have hinf : ∃ i, C.P.info? el = some i := by
            unfold isAgg at ha
            cases hu : C.P.underlying el with
            | none => rw [hu] at ha; cases ha
            | some d => exact info_of_under hu
          obtain ⟨inf, hinf⟩ := hinf
          exact ⟨z, by simp [Instr.index, asIntOf, run_underlying ht, hh.1, hh.2, run_sizeOf hinf, h1], h2⟩
        · cases h
    | _ => simp [indexA] at h
  | _ => cases x <;> simp [indexA] at h
end
end Go.Fv

/-! Operations, further: '==' and '!='. -/
namespace Go.Fv
open Go

section
variable {C : Cfg} {σ : Nat → Addr} {K : Ctx} {H H' : Heap} {w : World} {v : V}

theorem eqCs_length : ∀ {ks : List Sc} {a b : List V} {t : Bool}, eqCs ks a b = some t → a.length = ks.length ∧ b.length = ks.length
  | [], [], [], _, _ => ⟨rfl, rfl⟩
  | k :: ks, x :: a, y :: b, t, h => by
    simp only [eqCs] at h
    cases e : eqC k x y with
    | none => rw [e] at h; simp at h
    | some p =>
      rw [e] at h
      simp only [Option.bind_some] at h
      cases e2 : eqCs ks a b with
      | none => rw [e2] at h; simp at h
      | some q => simp [eqCs_length e2]
  | [], [], _ :: _, _, h => by simp [eqCs] at h
  | [], _ :: _, _, _, h => by simp [eqCs] at h
  | _ :: _, [], _, _, h => by simp [eqCs] at h
  | _ :: _, _ :: _, [], _, h => by simp [eqCs] at h

theorem eqCs_append : ∀ {ks ks' : List Sc} {a b : List V} {t : Bool}, eqCs (ks ++ ks') a b = some t →
    ∃ p q, eqCs ks (a.take ks.length) (b.take ks.length) = some p ∧ eqCs ks' (a.drop ks.length) (b.drop ks.length) = some q ∧ t = (p && q)
  | [], ks', a, b, t, h => ⟨true, t, by simp [eqCs], by simpa using h, by simp⟩
  | k :: ks, ks', [], b, t, h => by simp [eqCs] at h
  | k :: ks, ks', x :: a, [], t, h => by simp [eqCs] at h
  | k :: ks, ks', x :: a, y :: b, t, h => by
    simp only [List.cons_append, eqCs] at h
    cases e : eqC k x y with
    | none => rw [e] at h; simp at h
    | some p =>
      rw [e] at h
      simp only [Option.bind_some] at h
      cases e2 : eqCs (ks ++ ks') a b with
      | none => rw [e2] at h; simp at h
      | some q =>
        rw [e2] at h
        simp only [Option.bind_some, Option.some.injEq] at h
        obtain ⟨r, s, h1, h2, h3⟩ := eqCs_append e2
        exact ⟨p && r, s, by simp [eqCs, e, h1], by simpa using h2, by rw [← h, h3, Bool.and_assoc]⟩

theorem eqC_bool {x y : V} {a b : Value} {t : Bool} (hx : Rel σ K w x a) (hy : Rel σ K w y b) (h : eqC .bool x y = some t) : ∃ p q, a = .bool p ∧ b = .bool q ∧ t = (p == q) := by
  cases hx <;> cases hy <;> simp [eqC] at h
  exact ⟨_, _, rfl, rfl, h.symm⟩
theorem eqC_int {x y : V} {a b : Value} {t : Bool} (hx : Rel σ K w x a) (hy : Rel σ K w y b) (h : eqC .int x y = some t) : ∃ k p q, a = .int k p ∧ b = .int k q ∧ t = (p == q) := by
  cases hx <;> cases hy <;> simp [eqC] at h
  obtain ⟨rfl, h⟩ := h
  exact ⟨_, _, _, rfl, rfl, h.symm⟩
theorem eqC_str {x y : V} {a b : Value} {t : Bool} (hx : Rel σ K w x a) (hy : Rel σ K w y b) (h : eqC .str x y = some t) : ∃ p q, a = .string p ∧ b = .string q ∧ t = (p.toList == q.toList) := by
  cases hx <;> cases hy <;> simp [eqC] at h
  exact ⟨_, _, rfl, rfl, h.symm⟩

/-- Values that stand for a list. -/
def Rels (σ : Nat → Addr) (K : Ctx) (w : World) (l : List V) (xs : List Value) : Prop :=
  l.length = xs.length ∧ ∀ (j : Nat) c x, l[j]? = some c → xs[j]? = some x → Rel σ K w c x
theorem Rels.drop {l : List V} {xs : List Value} (h : Rels σ K w l xs) (k : Nat) : Rels σ K w (l.drop k) (xs.drop k) :=
  ⟨by simp [h.1], fun j c x hj hx => by rw [List.getElem?_drop] at hj hx; exact h.2 _ c x hj hx⟩
theorem Rels.take {l : List V} {xs : List Value} (h : Rels σ K w l xs) (k : Nat) : Rels σ K w (l.take k) (xs.take k) :=
  ⟨by simp [h.1], fun j c x hj hx => by
    rw [List.getElem?_take] at hj hx
    split at hj
    · rename_i hk; rw [if_pos hk] at hx; exact h.2 _ c x hj hx
    · cases hj⟩
theorem Rels.one {x : V} {xs : List Value} (h : Rels σ K w [x] xs) : ∃ a, xs = [a] ∧ Rel σ K w x a := by
  obtain ⟨h1, h2⟩ := h
  match xs, h1 with
  | [a], _ => exact ⟨a, rfl, h2 0 x a rfl rfl⟩

def aggDesc : TypeDesc → Bool
  | .struct _ | .array _ _ => true
  | _ => false
theorem isAgg_of {P : Program} {t : TypeId} {u : TypeDesc} (hu : P.underlying t = some u) : Fv.isAgg P t = some (aggDesc u) := by
  unfold Fv.isAgg; rw [hu]; cases u <;> rfl

def valOf (P : Program) (t : TypeId) (xs : List Value) : Value :=
  match Fv.isAgg P t with
  | some true => .agg xs.toArray
  | _ => xs.headD Go.undef

theorem valOf_agg {P : Program} {t : TypeId} (h : Fv.isAgg P t = some true) (xs : List Value) : valOf P t xs = .agg xs.toArray := by simp [valOf, h]
theorem valOf_one {P : Program} {t : TypeId} (h : Fv.isAgg P t = some false) (a : Value) : valOf P t [a] = a := by simp [valOf, h]

theorem run_part {P : Program} {t : TypeId} {ag : Bool} (ht : Fv.isAgg P t = some ag) (xs : List Value) (off : Nat) (hle : off + P.cellsOf t ≤ xs.length) (h1 : ag = false → P.cellsOf t = 1) :
    (part t xs.toArray off).run P w = .ok (valOf P t ((xs.drop off).take (P.cellsOf t))) w := by
  have hi : ∃ i, P.info? t = some i := by
    unfold Fv.isAgg at ht
    cases hu : P.underlying t with
    | none => rw [hu] at ht; cases ht
    | some d => exact info_of_under hu
  obtain ⟨i, hi⟩ := hi
  cases ag with
  | true =>
    simp only [part, Sem.run_bind, run_isAgg ht, Result.andThen_ok, if_true, run_sizeOf hi, Sem.run_pure, valOf, ht]
    have hx : xs.toArray.extract off (off + P.cellsOf t) = ((xs.drop off).take (P.cellsOf t)).toArray := by
      apply Array.ext'
      rw [Array.toList_extract]
      show (xs.drop off).take (off + P.cellsOf t - off) = _
      rw [Nat.add_sub_cancel_left]
    rw [hx]
  | false =>
    have h1 := h1 rfl
    have hlt : off < xs.length := by omega
    have : xs.drop off = xs[off] :: xs.drop (off + 1) := List.drop_eq_getElem_cons hlt
    rw [h1, this, List.take_succ_cons, List.take_zero, valOf_one ht]
    simp [part, run_isAgg ht, hlt]

theorem same_all (C : Cfg) (σ : Nat → Addr) (K : Ctx) (w : World) : ∀ (n : Nat) (t : TypeId) (ks : List Sc) (d : Nat), plainTy C.P n t = some ks → n ≤ d →
    ks.length = C.P.cellsOf t ∧ (∃ ag, Fv.isAgg C.P t = some ag ∧ (ag = false → C.P.cellsOf t = 1)) ∧
    ∀ (l m : List V) (xs ys : List Value) (b : Bool), Rels σ K w l xs → Rels σ K w m ys → eqCs ks l m = some b →
      (Op.equalIn d t (valOf C.P t xs) (valOf C.P t ys)).run C.P w = .ok b w
  | 0, t, ks, d, h, _ => by simp [plainTy] at h
  | n + 1, t, ks, 0, h, hd => by omega
  | n + 1, t, ks, d + 1, h, hd => by
    have ih := same_all C σ K w n
    have single : ∀ (k : Sc) (l m : List V) (xs ys : List Value) (b : Bool), Rels σ K w l xs → Rels σ K w m ys → eqCs [k] l m = some b → ∃ x y p q, eqC k x y = some b ∧ Rel σ K w x p ∧ Rel σ K w y q ∧ xs = [p] ∧ ys = [q] := by
      intro k l m xs ys b hx hy hb
      match l, m, hb with
      | [x], [y], hb =>
        obtain ⟨p, rfl, hp⟩ := hx.one
        obtain ⟨q, rfl, hq⟩ := hy.one
        refine ⟨x, y, p, q, ?_, hp, hq, rfl, rfl⟩
        simp only [eqCs] at hb
        cases e : eqC k x y with
        | none => rw [e] at hb; simp at hb
        | some r => rw [e] at hb; simp at hb; rw [hb]
      | [], _, hb => simp [eqCs] at hb
      | [_], [], hb => simp [eqCs] at hb
      | [x], y :: z :: m, hb => cases e : eqC k x y <;> simp [eqCs, e] at hb
      | x :: z :: l, [], hb => simp [eqCs] at hb
      | x :: z :: l, [y], hb => cases e : eqC k x y <;> simp [eqCs, e] at hb
      | x :: z :: l, y :: u :: m, hb => cases e : eqC k x y <;> simp [eqCs, e] at hb
    cases hu : C.P.underlying t with
    | none => simp [plainTy, hu] at h
    | some u =>
      have hia := isAgg_of hu
      cases u <;> simp only [plainTy, hu, reduceCtorEq] at h
      case bool =>
        split at h
        · rename_i hc
          injection h with h
          subst h
          refine ⟨by simp [hc], ⟨false, hia, fun _ => hc⟩, fun l m xs ys b hx hy hb => ?_⟩
          obtain ⟨x, y, p, q, h1, h2, h3, rfl, rfl⟩ := single _ _ _ _ _ _ hx hy hb
          obtain ⟨p', q', rfl, rfl, rfl⟩ := eqC_bool h2 h3 h1
          rw [valOf_one hia, valOf_one hia]
          simp [Op.equalIn, run_underlying hu]
        · cases h
      case int k =>
        split at h
        · rename_i hc
          injection h with h
          subst h
          refine ⟨by simp [hc], ⟨false, hia, fun _ => hc⟩, fun l m xs ys b hx hy hb => ?_⟩
          obtain ⟨x, y, p, q, h1, h2, h3, rfl, rfl⟩ := single _ _ _ _ _ _ hx hy hb
          obtain ⟨k', p', q', rfl, rfl, rfl⟩ := eqC_int h2 h3 h1
          rw [valOf_one hia, valOf_one hia]
          simp [Op.equalIn, run_underlying hu]
        · cases h
      case string =>
        split at h
        · rename_i hc
          injection h with h
          subst h
          refine ⟨by simp [hc], ⟨false, hia, fun _ => hc⟩, fun l m xs ys b hx hy hb => ?_⟩
          obtain ⟨x, y, p, q, h1, h2, h3, rfl, rfl⟩ := single _ _ _ _ _ _ hx hy hb
          obtain ⟨p', q', rfl, rfl, rfl⟩ := eqC_str h2 h3 h1
          rw [valOf_one hia, valOf_one hia]
          simp [Op.equalIn, run_underlying hu, beq_toListBytes]
        · cases h
      case struct fs =>
        split at h
        · cases h
        · rename_i hp
          have fields : ∀ (fs : List Field) (off tot : Nat) (ks : List Sc), plainFs C.P (plainTy C.P n) fs off tot = some ks → off + ks.length = tot ∧
              ∀ (l m : List V) (xs ys : List Value) (b : Bool), Rels σ K w l xs → Rels σ K w m ys → off ≤ l.length → off ≤ m.length → eqCs ks (l.drop off) (m.drop off) = some b →
                (Op.eqFields d xs.toArray ys.toArray fs).run C.P w = .ok b w := by
            intro fs
            induction fs with
            | nil =>
              intro off tot ks h
              simp only [plainFs] at h
              split at h
              · rename_i e
                injection h with h
                subst h
                refine ⟨by simpa using e, fun l m xs ys b hx hy _ _ hb => ?_⟩
                have : b = true := by
                  cases e1 : l.drop off <;> cases e2 : m.drop off <;> simp [e1, e2, eqCs] at hb
                  exact hb
                subst this
                rfl
              · cases h
            | cons f fs ihf =>
              intro off tot ks h
              simp only [plainFs] at h
              split at h
              · cases h
              · rename_i hn
                have hn1 : f.name ≠ "_" := fun e => hn (.inl e)
                have hn2 : f.offset = off := Classical.byContradiction fun e => hn (.inr e)
                cases ha : plainTy C.P n f.type with
                | none => rw [ha] at h; simp at h
                | some a =>
                  rw [ha] at h
                  simp only [Option.bind_some] at h
                  cases hb' : plainFs C.P (plainTy C.P n) fs (off + C.P.cellsOf f.type) tot with
                  | none => rw [hb'] at h; simp at h
                  | some b' =>
                    rw [hb'] at h
                    simp only [Option.bind_some, Option.some.injEq] at h
                    subst h
                    obtain ⟨g1, ⟨ag, g2, g3⟩, g4⟩ := ih f.type a d ha (by omega)
                    obtain ⟨f1, f2⟩ := ihf _ _ _ hb'
                    refine ⟨by rw [List.length_append]; omega, fun l m xs ys b hx hy hol hom hb => ?_⟩
                    have hlen := eqCs_length hb
                    simp only [List.length_drop, List.length_append] at hlen
                    obtain ⟨p, q, e1, e2, rfl⟩ := eqCs_append hb
                    rw [g1] at e1 e2
                    rw [List.drop_drop, List.drop_drop] at e2
                    have q1 := run_part (w := w) g2 xs off (by rw [← hx.1]; omega) g3
                    have q2 := run_part (w := w) g2 ys off (by rw [← hy.1]; omega) g3
                    have q3 := g4 _ _ _ _ p ((hx.drop off).take _) ((hy.drop off).take _) e1
                    have q4 := f2 l m xs ys q hx hy (by omega) (by omega) e2
                    simp only [Op.eqFields, if_pos hn1, Sem.run_bind, hn2, q1, q2, q3, Result.andThen_ok, Sem.run_ite]
                    cases p
                    · simp
                    · simpa using q4
          obtain ⟨f1, f2⟩ := fields fs.toList 0 _ ks h
          refine ⟨by simpa using f1, ⟨true, hia, fun e => by cases e⟩, fun l m xs ys b hx hy hb => ?_⟩
          have hf : C.P.fieldsOf t = fs := by simp [Program.fieldsOf, hu]
          have := f2 l m xs ys b hx hy (Nat.zero_le _) (Nat.zero_le _) (by simpa using hb)
          rw [valOf_agg hia, valOf_agg hia]
          rw [run_equalIn_struct w d t xs.toArray ys.toArray (by rw [hf]; exact hu) (by simpa using hp), hf]
          exact this
      case array len e =>
        cases ha : plainTy C.P n e with
        | none => rw [ha] at h; simp at h
        | some a =>
          rw [ha] at h
          simp only [Option.bind_some] at h
          split at h
          · rename_i hh
            obtain ⟨hc, hal⟩ := hh
            injection h with h
            subst h
            obtain ⟨g1, ⟨ag, g2, g3⟩, g4⟩ := ih e a d ha (by omega)
            have hi : ∃ i, C.P.info? e = some i := by
              unfold Fv.isAgg at g2
              cases hu : C.P.underlying e with
              | none => rw [hu] at g2; cases g2
              | some d => exact info_of_under hu
            obtain ⟨i, hi⟩ := hi
            have hkl : (List.replicate len a).flatten.length = len * C.P.cellsOf e := by
              rw [flatten_length (sz := a.length) _ (fun r hr => by rw [List.eq_of_mem_replicate hr])]; simp [hal]
            refine ⟨by rw [hkl, hc], ⟨true, hia, fun e => by cases e⟩, fun l m xs ys b hx hy hb => ?_⟩
            rw [valOf_agg hia, valOf_agg hia]
            have rounds : ∀ (k j : Nat) (b : Bool), j * C.P.cellsOf e ≤ l.length → j * C.P.cellsOf e ≤ m.length → eqCs (List.replicate k a).flatten (l.drop (j * C.P.cellsOf e)) (m.drop (j * C.P.cellsOf e)) = some b →
                (do for i in List.range' j k 1 do
                      if !(← Op.equalIn d e (← part e xs.toArray (i * C.P.cellsOf e)) (← part e ys.toArray (i * C.P.cellsOf e))) then return false
                    pure true : Sem Bool).run C.P w = .ok b w := by
              intro k
              induction k with
              | zero =>
                intro j b _ _ hb
                have : b = true := by
                  cases e1 : l.drop (j * C.P.cellsOf e) <;> cases e2 : m.drop (j * C.P.cellsOf e) <;> simp [e1, e2, eqCs] at hb
                  exact hb
                subst this
                simp
              | succ k ihk =>
                intro j b hjl hjm hb
                rw [List.replicate_succ, List.flatten_cons] at hb
                have hlen := eqCs_length hb
                simp only [List.length_drop, List.length_append] at hlen
                obtain ⟨p, q, e1, e2, rfl⟩ := eqCs_append hb
                rw [g1] at e1 e2
                rw [List.drop_drop, List.drop_drop] at e2
                have q1 := run_part (w := w) g2 xs (j * C.P.cellsOf e) (by rw [← hx.1]; omega) g3
                have q2 := run_part (w := w) g2 ys (j * C.P.cellsOf e) (by rw [← hy.1]; omega) g3
                have q3 := g4 _ _ _ _ p ((hx.drop (j * C.P.cellsOf e)).take _) ((hy.drop (j * C.P.cellsOf e)).take _) e1
                have q4 := ihk (j + 1) q (by rw [Nat.succ_mul]; omega) (by rw [Nat.succ_mul]; omega) (by rw [Nat.succ_mul]; exact e2)
                rw [List.range'_succ, List.forIn_cons]
                simp only [Sem.run_bind, q1, q2, q3, Result.andThen_ok, Sem.run_ite]
                cases p
                · simp
                · simpa using q4
            have := rounds len 0 b (by simp) (by simp) (by simpa using hb)
            simp only [Op.equalIn, Sem.run_bind, run_underlying hu, Result.andThen_ok, run_sizeOf hi]
            simp only [Std.Legacy.Range.forIn_eq_forIn_range', Std.Legacy.Range.size, Nat.sub_zero, Nat.add_sub_cancel, Nat.div_one]
            simp only [Sem.run_bind] at this ⊢
            exact this
          · cases h

theorem Rel.rels {l : List V} {cs : Array Value} (h : Rel σ K w (.agg l) (.agg cs)) : Rels σ K w l cs.toList := by
  cases h with
  | agg l cs hl hc hr => exact ⟨by simpa using hl, fun j c x hj hx => hr j c x hj (by simpa using hx)⟩

theorem eq0 (t : TypeId) (a b : Value) : Op.equal t a b = Op.equalIn (9999 + 1) t a b := rfl

def EqOk (P : Program) (w : World) (t : TypeId) (p q : Operand) (a b : Value) (r : Bool) : Prop :=
  (do eqGuard .eql t p q a b; binOp .eql t a b : Sem Value).run P w = .ok (.bool r) w ∧ (do eqGuard .neq t p q a b; binOp .neq t a b : Sem Value).run P w = .ok (.bool !r) w

theorem eq_ptr {P : Program} {t el : TypeId} (hu : P.underlying t = some (.pointer el)) (w : World) (d : Nat) (b : Option Addr) :
    (Op.equalIn (d + 1) t (.pointer none) (.pointer b)).run P w = .ok b.isNone w ∧ (Op.equalIn (d + 1) t (.pointer b) (.pointer none)).run P w = .ok b.isNone w := by
  cases b <;> simp [Op.equalIn, run_underlying hu]
theorem eq_slice {P : Program} {t el : TypeId} (hu : P.underlying t = some (.slice el)) (w : World) (d : Nat) (b : Option Addr) (n c : Nat) :
    (Op.equalIn (d + 1) t (.slice none 0 0) (.slice b n c)).run P w = .ok b.isNone w ∧ (Op.equalIn (d + 1) t (.slice b n c) (.slice none 0 0)).run P w = .ok b.isNone w := by
  cases b <;> simp [Op.equalIn, run_underlying hu]
theorem eq_iface {P : Program} {t : TypeId} {ms : Array (String × TypeId)} (hu : P.underlying t = some (.interface ms)) (w : World) (d : Nat) (u : TypeId) (z : Value) :
    (Op.equalIn (d + 1) t .nilIface .nilIface).run P w = .ok true w ∧ (Op.equalIn (d + 1) t .nilIface (.iface u z)).run P w = .ok false w ∧ (Op.equalIn (d + 1) t (.iface u z) .nilIface).run P w = .ok false w := by
  simp [Op.equalIn, run_underlying hu]
theorem eq_func {P : Program} {t : TypeId} {ps rs : Array TypeId} {vr : Bool} (hu : P.underlying t = some (.func ps rs vr)) (w : World) (d : Nat) (f : Fn) (x y : Array Value) :
    (Op.equalIn (d + 1) t .nilFunc .nilFunc).run P w = .ok true w ∧ (Op.equalIn (d + 1) t .nilFunc (.func f x y)).run P w = .ok false w ∧ (Op.equalIn (d + 1) t (.func f x y) .nilFunc).run P w = .ok false w := by
  simp [Op.equalIn, run_underlying hu]

theorem EqOk.of {P : Program} {t : TypeId} {p q : Operand} {a b : Value} {r : Bool} (he : (Op.equalIn (9999 + 1) t a b).run P w = .ok r w) (hg : ∀ op, (eqGuard op t p q a b).run P w = .ok () w)
    (hb : ∀ op, op = .eql ∨ op = .neq → binOp op t a b = (if op = .eql then (do pure (.bool (← Op.equal t a b))) else (do pure (.bool (!(← Op.equal t a b)))))) : EqOk P w t p q a b r := by
  have he' : (Op.equal t a b).run P w = .ok r w := he
  exact ⟨by simp [hg, hb .eql (.inl rfl), he'], by simp [hg, hb .neq (.inr rfl), he']⟩

theorem ok_eq_ptr {t el : TypeId} (hu : C.P.underlying t = some (.pointer el)) {c : Bool} {p q : Operand} {x y : V} {a b : Value} (hx : Rel σ K w x a) (hy : Rel σ K w y b) {r : Bool} (h : eqV .ptr c x y = some r) : EqOk C.P w t p q a b r := by
  have nn : ∀ b' : Option Addr, EqOk C.P w t p q (.pointer none) (.pointer b') b'.isNone := fun b' => .of (eq_ptr hu w 9999 b').1 (fun op => by cases op <;> rfl) (fun op ho => by rcases ho with rfl | rfl <;> rfl)
  have sn : ∀ b' : Option Addr, EqOk C.P w t p q (.pointer b') (.pointer none) b'.isNone := fun b' => .of (eq_ptr hu w 9999 b').2 (fun op => by cases op <;> rfl) (fun op ho => by rcases ho with rfl | rfl <;> rfl)
  cases hx <;> cases hy <;> simp only [eqV, reduceCtorEq, Option.some.injEq] at h <;> subst h <;> first | exact nn none | exact nn (some _) | exact sn (some _)

theorem ok_eq_slice {t el : TypeId} (hu : C.P.underlying t = some (.slice el)) {c : Bool} {p q : Operand} {x y : V} {a b : Value} (hx : Rel σ K w x a) (hy : Rel σ K w y b) {r : Bool} (h : eqV .slice c x y = some r) : EqOk C.P w t p q a b r := by
  have nn : ∀ (b' : Option Addr) n c', EqOk C.P w t p q (.slice none 0 0) (.slice b' n c') b'.isNone := fun b' n c' => .of (eq_slice hu w 9999 b' n c').1 (fun op => by cases op <;> rfl) (fun op ho => by rcases ho with rfl | rfl <;> rfl)
  have sn : ∀ (b' : Option Addr) n c', EqOk C.P w t p q (.slice b' n c') (.slice none 0 0) b'.isNone := fun b' n c' => .of (eq_slice hu w 9999 b' n c').2 (fun op => by cases op <;> rfl) (fun op ho => by rcases ho with rfl | rfl <;> rfl)
  cases hx <;> cases hy <;> simp only [eqV, V.isNilS, reduceCtorEq, Option.some.injEq] at h <;> subst h <;> first | exact nn none 0 0 | exact nn (some _) _ _ | exact sn (some _) _ _

theorem ok_eq_iface {t : TypeId} {ms : Array (String × TypeId)} (hu : C.P.underlying t = some (.interface ms)) {c : Bool} {p q : Operand} (hc : c = true → (isConst p || isConst q) = true) {x y : V} {a b : Value} (hx : Rel σ K w x a) (hy : Rel σ K w y b) {r : Bool} (h : eqV .iface c x y = some r) : EqOk C.P w t p q a b r := by
  have n1 : ∀ u z, EqOk C.P w t p q .nilIface (.iface u z) false := fun u z => .of (eq_iface hu w 9999 u z).2.1 (fun op => by cases op <;> rfl) (fun op ho => by rcases ho with rfl | rfl <;> rfl)
  have n2 : ∀ u z, EqOk C.P w t p q (.iface u z) .nilIface false := fun u z => .of (eq_iface hu w 9999 u z).2.2 (fun op => by cases op <;> rfl) (fun op ho => by rcases ho with rfl | rfl <;> rfl)
  cases hx <;> cases hy <;> simp only [eqV, reduceCtorEq, Option.some.injEq] at h <;> first
    | (subst h; exact n1 _ _)
    | (subst h; exact n2 _ _)
    | (split at h
       · rename_i hc'
         injection h with h
         subst h
         have hk := hc hc'
         refine .of (eq_iface hu w 9999 0 .nilIface).1 (fun op => ?_) (fun op ho => by rcases ho with rfl | rfl <;> rfl)
         cases p <;> cases q <;> simp [isConst] at hk <;> cases op <;> simp [eqGuard]
       · cases h)

theorem ok_eq_func {t : TypeId} {ps rs : Array TypeId} {vr : Bool} (hu : C.P.underlying t = some (.func ps rs vr)) {c : Bool} {p q : Operand} {x y : V} {a b : Value} (hx : Rel σ K w x a) (hy : Rel σ K w y b) {r : Bool} (h : eqV .func c x y = some r) : EqOk C.P w t p q a b r := by
  have n0 : EqOk C.P w t p q .nilFunc .nilFunc true := .of (eq_func hu w 9999 (.func 0) #[] #[]).1 (fun op => by cases op <;> rfl) (fun op ho => by rcases ho with rfl | rfl <;> rfl)
  have n1 : ∀ f u z, EqOk C.P w t p q .nilFunc (.func f u z) false := fun f u z => .of (eq_func hu w 9999 f u z).2.1 (fun op => by cases op <;> rfl) (fun op ho => by rcases ho with rfl | rfl <;> rfl)
  have n2 : ∀ f u z, EqOk C.P w t p q (.func f u z) .nilFunc false := fun f u z => .of (eq_func hu w 9999 f u z).2.2 (fun op => by cases op <;> rfl) (fun op ho => by rcases ho with rfl | rfl <;> rfl)
  cases hx <;> cases hy <;> simp only [eqV, reduceCtorEq, Option.some.injEq] at h <;> subst h <;> first | exact n0 | exact n1 _ _ _ | exact n2 _ _ _

theorem ok_eq_agg {t : TypeId} {u : TypeDesc} (hu : C.P.underlying t = some u) (hag : aggDesc u = true) {ks : List Sc} (hk : plainTy C.P 8 t = some ks) (hg : C.P.eqGuardType C.P.depth t = false) {c : Bool} {p q : Operand} {x y : V} {a b : Value} (hx : Rel σ K w x a) (hy : Rel σ K w y b) {r : Bool} (h : eqV (.agg ks) c x y = some r) : EqOk C.P w t p q a b r := by
  cases x <;> cases y <;> simp only [eqV, reduceCtorEq] at h
  rename_i l m
  cases hx with
  | agg _ xs hl hc hr =>
    cases hy with
    | agg _ ys hl' hc' hr' =>
      obtain ⟨_, ⟨ag, g1, _⟩, g2⟩ := same_all C σ K w 8 t ks (9999 + 1) hk (by omega)
      have hia := isAgg_of hu
      rw [hag] at hia
      have := g2 l m xs.toList ys.toList r ⟨by simpa using hl, fun j c x hj hx => hr j c x hj (by simpa using hx)⟩ ⟨by simpa using hl', fun j c x hj hx => hr' j c x hj (by simpa using hx)⟩ h
      rw [valOf_agg hia, valOf_agg hia] at this
      exact .of this (fun op => run_eqGuard_agg w op t p q xs ys hg) (fun op ho => by rcases ho with rfl | rfl <;> rfl)

/-- '==' and '!='. -/
theorem ok_eq {t : TypeId} {T : EqT} (hT : eqTy C.P t = some T) {c : Bool} {p q : Operand} (hc : c = true → (isConst p || isConst q) = true) {x y : V} {a b : Value} (hx : Rel σ K w x a) (hy : Rel σ K w y b) {r : Bool}
    (h : eqV T c x y = some r) : EqOk C.P w t p q a b r := by
  cases hu : C.P.underlying t with
  | none => simp [eqTy, hu] at hT
  | some u =>
    cases u <;> simp only [eqTy, hu, reduceCtorEq] at hT
    case bool =>
      injection hT with hT; subst hT
      obtain ⟨p', q', rfl, rfl, rfl⟩ := eqC_bool hx hy h
      exact .of (run_equalIn_bool w 9999 t p' q' hu) (fun op => by cases op <;> rfl) (fun op ho => by rcases ho with rfl | rfl <;> rfl)
    case int k =>
      injection hT with hT; subst hT
      obtain ⟨k', p', q', rfl, rfl, rfl⟩ := eqC_int hx hy h
      exact ⟨by simp [eqGuard, binOp, Op.intCmp], by simp [eqGuard, binOp, Op.intCmp, bne]⟩
    case string =>
      injection hT with hT; subst hT
      obtain ⟨p', q', rfl, rfl, rfl⟩ := eqC_str hx hy h
      exact ⟨by simp [eqGuard, binOp, Op.stringOp], by simp [eqGuard, binOp, Op.stringOp]⟩
    case pointer el => injection hT with hT; subst hT; exact ok_eq_ptr hu hx hy h
    case slice el => injection hT with hT; subst hT; exact ok_eq_slice hu hx hy h
    case interface ms => injection hT with hT; subst hT; exact ok_eq_iface hu hc hx hy h
    case func ps rs vr => injection hT with hT; subst hT; exact ok_eq_func hu hx hy h
    all_goals
      split at hT
      · cases hT
      · rename_i hg
        cases hk : plainTy C.P 8 t with
        | none => rw [hk] at hT; simp at hT
        | some ks =>
          rw [hk] at hT
          simp only [Option.bind_some, Option.some.injEq] at hT
          subst hT
          exact ok_eq_agg hu rfl hk (by simpa using hg) hx hy h
end
end Go.Fv

/-! Operations, further: what is built. -/
namespace Go.Fv
open Go

section
variable {C : Cfg} {σ : Nat → Addr} {K : Ctx} {H H' : Heap} {w : World} {v : V}

theorem mapM_some {α β : Type} (f : α → Option β) (g : α → β) (h : ∀ a, f a = some (g a)) : ∀ l : List α, l.mapM f = some (l.map g)
  | [] => rfl
  | a :: l => by rw [List.mapM_cons, h, mapM_some f g h l]; rfl

theorem fold_set (off : Nat) : ∀ (vs : List Value) (k : Nat) (cs : Array Value), off + k + vs.length ≤ cs.size →
    ((vs.zipIdx k).foldl (fun cs (x : Value × Nat) => cs.setIfInBounds (off + x.2) x.1) cs).toList = cs.toList.take (off + k) ++ vs ++ cs.toList.drop (off + k + vs.length)
  | [], k, cs, _ => by simp
  | v :: vs, k, cs, h => by
    have ih := fold_set off vs (k + 1) (cs.setIfInBounds (off + k) v) (by simp at h ⊢; omega)
    rw [List.zipIdx_cons, List.foldl_cons, ih]
    have e := list_seg_step cs.toList (off + k) v vs (by simp at h ⊢; omega)
    simpa [Array.toList_setIfInBounds, Nat.add_assoc] using e

theorem fill_ok {e : Operand → V} {ρ : Operand → Value} (E : ∀ x, Rel σ K w (e x) (ρ x)) (pl : Nat → Option (Nat × Nat)) : ∀ (ops : List (Nat × Operand)) (ps : List (Nat × Nat × V)),
    (ops.mapM fun p => (pl p.1).map fun os => (os.1, os.2, e p.2)) = some ps → ∀ (l l' : List V) (cs : Array Value), Rel σ K w (.agg l) (.agg cs) → fill l ps = some l' →
    ∃ cs', Instr.fill pl cs (ops.map fun p => (p.1, ρ p.2)) = some cs' ∧ Rel σ K w (.agg l') (.agg cs') ∧ cs'.size = cs.size
  | [], ps, hps, l, l', cs, hr, hf => by
    simp at hps
    subst hps
    simp [fill] at hf
    subst hf
    exact ⟨cs, rfl, hr, rfl⟩
  | (i, x) :: ops, ps, hps, l, l', cs, hr, hf => by
    simp only [List.mapM_cons, Option.bind_eq_bind, Option.pure_def] at hps
    cases hpl : pl i with
    | none => rw [hpl] at hps; simp at hps
    | some os =>
      rw [hpl] at hps
      simp only [Option.map_some, Option.bind_some] at hps
      cases hm : ops.mapM fun p => (pl p.1).map fun os => (os.1, os.2, e p.2) with
      | none => rw [hm] at hps; simp at hps
      | some ps' =>
        rw [hm] at hps
        simp only [Option.bind_some, Option.some.injEq] at hps
        subst hps
        simp only [fill] at hf
        cases hc : (e x).cells? with
        | none => rw [hc] at hf; simp at hf
        | some vs =>
          rw [hc] at hf
          simp only [Option.bind_some] at hf
          split at hf
          · rename_i hlen
            unfold putRow at hf
            split at hf
            · rename_i hle
              simp only [Option.bind_some] at hf
              obtain ⟨h1, h2, h3⟩ := (E x).cells hc
              cases hr with
              | agg _ _ hl hcl hrl =>
                have hsz : (ρ x).cells.size = os.2 := by rw [← h1, hlen]
                have hfs := fold_set os.1 (ρ x).cells.toList 0 cs (by simp; omega)
                simp only [Nat.add_zero] at hfs
                let cs1 : Array Value := (ρ x).cells.zipIdx.foldl (fun cs (y : Value × Nat) => cs.setIfInBounds (os.1 + y.2) y.1) cs
                have hcs1 : cs1.toList = cs.toList.take os.1 ++ (ρ x).cells.toList ++ cs.toList.drop (os.1 + (ρ x).cells.toList.length) := by
                  rw [← hfs]
                  show (Array.foldl _ cs (ρ x).cells.zipIdx).toList = _
                  rw [← Array.foldl_toList, Array.toList_zipIdx]
                have hlen1 : cs1.size = cs.size := by
                  have := congrArg List.length hcs1
                  simp only [List.length_append, List.length_take, List.length_drop, Array.length_toList] at this
                  omega
                have hr1 : Rel σ K w (.agg (l.take os.1 ++ vs ++ l.drop (os.1 + vs.length))) (.agg cs1) := by
                  refine .agg _ _ (by rw [hlen1]; simp; omega) ?_ ?_
                  · intro a ha
                    simp only [List.mem_append] at ha
                    rcases ha with (ha | ha) | ha
                    · exact hcl a (List.mem_of_mem_take ha)
                    · exact h2 a ha
                    · exact hcl a (List.mem_of_mem_drop ha)
                  · intro j a b ha hb
                    rw [← Array.getElem?_toList, hcs1] at hb
                    rw [splice_get _ _ _ _ hle] at ha
                    rw [splice_get _ _ _ _ (by simp; omega)] at hb
                    simp only [Array.length_toList, ← h1] at hb
                    split at ha
                    · rename_i g; rw [if_pos g] at hb; exact hrl j a b ha (by simpa using hb)
                    · rename_i g
                      rw [if_neg g] at hb
                      split at ha
                      · rename_i g'; rw [if_pos g'] at hb; exact h3 _ a b ha (by simpa using hb)
                      · rename_i g'; rw [if_neg g'] at hb; exact hrl j a b ha (by simpa using hb)
                obtain ⟨cs', g1, g2, g3⟩ := fill_ok E pl ops ps' hm _ l' cs1 hr1 hf
                refine ⟨cs', ?_, g2, g3.trans hlen1⟩
                simp only [List.map_cons, Instr.fill, hpl, hsz]
                rw [if_neg (by simp; omega)]
                exact g1
            · simp at hf
          · cases hf

theorem zeroC_rel {t : TypeId} {z : List V} (h : zeroC C.P t = some z) : ∃ i zv, C.P.info? t = some i ∧ i.zero = some zv ∧ Rel σ K w (.agg z) (.agg zv.cells) := by
  unfold zeroC at h
  cases hi : C.P.info? t with
  | none => rw [hi] at h; simp at h
  | some i =>
    rw [hi] at h
    simp only [Option.bind_some] at h
    cases hz : i.zero with
    | none => rw [hz] at h; simp at h
    | some zv =>
      rw [hz] at h
      simp only [Option.bind_some] at h
      obtain ⟨h1, h2, h3⟩ := (rel_cstV (σ := σ) (K := K) (w := w) zv).cells h
      exact ⟨i, zv, rfl, hz, .agg z zv.cells h1 h2 h3⟩

theorem run_zeroValue {P : Program} {t : TypeId} {i : TypeInfo} {zv : Value} (hi : P.info? t = some i) (hz : i.zero = some zv) (w : World) : (zeroValue t).run P w = .ok zv w := by
  simp [zeroValue, typeInfo, hi, hz]

theorem run_mapM_places {P : Program} (w : World) : ∀ (fs : List Field), (fs.all fun f => (P.info? f.type).isSome) = true →
    (fs.mapM fun f => do pure (f.offset, ← sizeOf f.type) : Sem (List (Nat × Nat))).run P w = .ok (fs.map fun f => (f.offset, P.cellsOf f.type)) w
  | [], _ => rfl
  | f :: fs, h => by
    simp only [List.all_cons, Bool.and_eq_true] at h
    obtain ⟨i, hi⟩ := Option.isSome_iff_exists.1 h.1
    have ih := run_mapM_places w fs h.2
    simp only [List.mapM_cons, Sem.run_bind, run_sizeOf hi, Result.andThen_ok, Sem.run_pure, ih, List.map_cons]

theorem ok_build {t : TypeId} {parts : Array (Nat × Operand)} {e : Operand → V} {ρ : Operand → Value} (E : ∀ x, Rel σ K w (e x) (ρ x)) (h : opV C e (.build t parts) H = some (v, H')) :
    ∃ z, (Instr.build t (parts.map fun (i, x) => (i, ρ x))).run C.P w = .ok z w ∧ Rel σ K w v z ∧ H' = H := by
  cases hu : C.P.underlying t with
  | none => simp [opV, hu, M.fail] at h
  | some u =>
  cases hz : zeroC C.P t with
  | none => cases u <;> simp [opV, hu, hz, M.fail] at h
  | some z =>
  obtain ⟨i, zv, hi, hzv, hrz⟩ := zeroC_rel (σ := σ) (K := K) (w := w) hz
  have hp : (parts.map fun (x : Nat × Operand) => (x.1, ρ x.2)).toList = parts.toList.map fun p => (p.1, ρ p.2) := by simp
  cases u <;> simp only [opV, hu, hz] at h
  case struct fs =>
    split at h
    · cases h
    · rename_i hall
      have hall : (fs.toList.all fun f => (C.P.info? f.type).isSome) = true := by simpa only [Bool.not_eq_false] using hall
      generalize hps : (parts.toList.mapM fun p => (fs[p.1]?).map fun f => (f.offset, C.P.cellsOf f.type, e p.2)) = ops at h
      cases ops with
      | none => cases h
      | some ps =>
        obtain ⟨h2, e2⟩ := lift_eq h
        clear h
        subst e2
        have h := h2
        clear h2
        unfold buildV at h
        cases hf : fill z ps with
        | none => rw [hf] at h; simp at h
        | some l' =>
          rw [hf] at h
          simp only [Option.bind_some, Option.some.injEq] at h
          subst h
          let places : Array (Nat × Nat) := (fs.toList.map fun f => (f.offset, C.P.cellsOf f.type)).toArray
          have hps' : (parts.toList.mapM fun p => (places[p.1]?).map fun os => (os.1, os.2, e p.2)) = some ps := by
            rw [← hps]
            congr 1
            funext p
            simp only [places]
            cases hq : fs[p.1]? <;> simp [hq]
          obtain ⟨cs', g1, g2, _⟩ := fill_ok E (fun i => places[i]?) parts.toList ps hps' z l' zv.cells hrz hf
          refine ⟨.agg cs', ?_, g2, rfl⟩
          have hm : (fs.mapM fun f => do pure (f.offset, ← sizeOf f.type) : Sem (Array (Nat × Nat))).run C.P w = .ok places w := by
            rw [Array.mapM_eq_mapM_toList]
            simp only [Sem.run_map, run_mapM_places w fs.toList hall, places, Result.andThen_ok]
          simp only [Instr.build, Sem.run_bind, run_zeroValue hi hzv, Result.andThen_ok, run_underlying hu, hm]
          simp only [hp, g1, Sem.run_pure]
  case array n el =>
    split at h
    · cases h
    · rename_i hall
      obtain ⟨iel, hiel⟩ := Option.isSome_iff_exists.1 (by simpa only [Bool.not_eq_false] using hall)
      obtain ⟨h2, e2⟩ := lift_eq h
      clear h
      subst e2
      have h := h2
      clear h2
      unfold buildV at h
      cases hf : fill z (parts.toList.map fun p => (p.1 * C.P.cellsOf el, C.P.cellsOf el, e p.2)) with
      | none => rw [hf] at h; simp at h
      | some l' =>
        rw [hf] at h
        simp only [Option.bind_some, Option.some.injEq] at h
        subst h
        have hps' : (parts.toList.mapM fun p => ((some (p.1 * C.P.cellsOf el, C.P.cellsOf el) : Option (Nat × Nat))).map fun os => (os.1, os.2, e p.2)) = some (parts.toList.map fun p => (p.1 * C.P.cellsOf el, C.P.cellsOf el, e p.2)) := by
          exact mapM_some _ _ (fun _ => rfl) _
        obtain ⟨cs', g1, g2, _⟩ := fill_ok E (fun i => some (i * C.P.cellsOf el, C.P.cellsOf el)) parts.toList _ hps' z l' zv.cells hrz hf
        refine ⟨.agg cs', ?_, g2, rfl⟩
        simp only [Instr.build, Sem.run_bind, run_zeroValue hi hzv, Result.andThen_ok, run_underlying hu, run_sizeOf hiel]
        simp only [hp, g1, Sem.run_pure]
  all_goals (simp [M.fail] at h)
end
end Go.Fv

/-! Operations, further: slices made, append, copy, clear. -/
namespace Go.Fv
open Go

section
variable {C : Cfg} {σ : Nat → Addr} {K : Ctx} {H H' : Heap} {w : World} {v : V}

theorem newRows_okF (fz : Nat × Nat) (inv : Inv σ K H w) (el : TypeId) (sz : Nat) (rows : List (List V)) (cs : Array Value) (hfz : fz = (0, 0) ∨ cs.size ≤ fz.1) (cap : Nat) (ex : Bool) (hs : ∀ r ∈ rows, r.length = sz)
    (hcap : rows.length ≤ cap) (hsize : cap * sz ≤ cs.size) (hex : ex = true → cap = rows.length) (hc : CellsAt σ K w (fun k => cs.toList[k]?) 0 rows.flatten) :
    ∃ K', Inv σ K' (H.add ⟨sz, rows⟩) (w.alloc (Obj.cells cs el fz)) ∧ Evo K H w K' (H.add ⟨sz, rows⟩) (w.alloc (Obj.cells cs el fz)) ∧
      Rel σ K' (w.alloc (Obj.cells cs el fz)) (.ref H.next sz 0 rows.length rows.length ex) (.slice (some ⟨w.heap.size, 0, none⟩) rows.length cap) := by
  have hroom : rows.length * sz ≤ cs.size := Nat.le_trans (Nat.mul_le_mul_right _ hcap) hsize
  have hc' := (rows_flat hs).2 hc
  obtain ⟨K', i', e', hn, hρ, hD⟩ := inv.addF el sz rows cs fz hfz hs hroom (fun i r j c hi hj => by
    obtain ⟨h1, x, h2, h3⟩ := hc' i r j c hi hj
    exact ⟨h1, x, by simpa using h2, h3⟩)
  refine ⟨K', i', e', .ref _ sz 0 _ _ ex _ cap w.heap.size 0 (by rw [← inv.nx]; exact hD) (by rw [← inv.nx]; exact hρ) (Nat.le_refl _) hcap hex (fun _ => ⟨by simp, cs, el, fz, heap_alloc_new w _, by simpa using hsize⟩)⟩

theorem newRows_ok (inv : Inv σ K H w) (el : TypeId) (sz : Nat) (rows : List (List V)) (cs : Array Value) (cap : Nat) (ex : Bool) (hs : ∀ r ∈ rows, r.length = sz)
    (hcap : rows.length ≤ cap) (hsize : cap * sz ≤ cs.size) (hex : ex = true → cap = rows.length) (hc : CellsAt σ K w (fun k => cs.toList[k]?) 0 rows.flatten) :
    ∃ K', Inv σ K' (H.add ⟨sz, rows⟩) (w.alloc (Obj.cells cs el)) ∧ Evo K H w K' (H.add ⟨sz, rows⟩) (w.alloc (Obj.cells cs el)) ∧
      Rel σ K' (w.alloc (Obj.cells cs el)) (.ref H.next sz 0 rows.length rows.length ex) (.slice (some ⟨w.heap.size, 0, none⟩) rows.length cap) :=
  newRows_okF (0, 0) inv el sz rows cs (.inl rfl) cap ex hs hcap hsize hex hc

theorem zeros_rel {z : List V} {zc : Array Value} (h : Rel σ K w (.agg z) (.agg zc)) (hz : 0 < zc.size) (len : Nat) :
    Rel σ K w (.agg (List.replicate len z).flatten) (.agg ((Array.range (len * zc.size)).map fun i => zc[i % zc.size]!)) := by
  cases h with
  | agg _ _ hl hc hr =>
    have hs : ∀ r ∈ List.replicate len z, r.length = zc.size := fun r hr' => by rw [List.eq_of_mem_replicate hr']; exact hl
    refine .agg _ _ (by rw [flatten_length _ hs]; simp) ?_ ?_
    · intro a ha
      rw [List.mem_flatten] at ha
      obtain ⟨r, h1, h2⟩ := ha
      rw [List.eq_of_mem_replicate h1] at h2
      exact hc a h2
    · intro k a b ha hb
      have e : k / zc.size * zc.size + k % zc.size = k := Nat.div_add_mod' k zc.size
      have hm := Nat.mod_lt k hz
      have := flatten_get _ hs (k / zc.size) (k % zc.size) hm
      rw [e, ha, List.getElem?_replicate] at this
      split at this
      · simp only [Option.bind_some] at this
        refine hr _ a b this.symm ?_
        rw [Array.getElem?_map] at hb
        have hk : k < len * zc.size := by
          rcases Nat.lt_or_ge k (len * zc.size) with g | g
          · exact g
          · simp [Array.getElem?_eq_none (xs := Array.range (len * zc.size)) (i := k) (by simpa using g)] at hb
        simp [hk] at hb
        rw [← hb, getElem!_pos zc _ hm]
        simp [hm]
      · cases this

theorem fillRows_flat {sz : Nat} : ∀ (ps : List (Nat × V)) (rows rows' : List (List V)), (∀ r ∈ rows, r.length = sz) → fillRows sz rows ps = some rows' →
    fill rows.flatten (ps.map fun p => (p.1 * sz, sz, p.2)) = some rows'.flatten ∧ (∀ r ∈ rows', r.length = sz) ∧ rows'.length = rows.length
  | [], rows, rows', hs, h => by simp [fillRows] at h; subst h; exact ⟨rfl, hs, rfl⟩
  | (i, x) :: ps, rows, rows', hs, h => by
    simp only [fillRows] at h
    cases hc : x.cells? with
    | none => rw [hc] at h; simp at h
    | some vs =>
      rw [hc] at h
      simp only [Option.bind_some] at h
      split at h
      · rename_i hh
        obtain ⟨h1, h2⟩ := hh
        have hs' : ∀ r ∈ rows.set i vs, r.length = sz := fun r hr => by
          rcases List.mem_or_eq_of_mem_set hr with hr | hr
          · exact hs r hr
          · rw [hr]; exact h1
        obtain ⟨g1, g2, g3⟩ := fillRows_flat ps _ rows' hs' h
        refine ⟨?_, g2, by rw [g3]; simp⟩
        have hfl := flatten_length rows hs
        have hmul : i * sz + sz ≤ rows.length * sz := by
          have : (i + 1) * sz ≤ rows.length * sz := Nat.mul_le_mul_right _ h2
          rwa [Nat.succ_mul] at this
        simp only [List.map_cons, fill, hc, Option.bind_some, if_pos h1, putRow]
        rw [if_pos (by rw [h1, hfl]; exact hmul)]
        simp only [Option.bind_some]
        rw [h1, ← flatten_set rows hs i vs h2]
        exact g1
      · cases h

theorem agg_cells {l : List V} {cs : Array Value} (h : Rel σ K w (.agg l) (.agg cs)) : CellsAt σ K w (fun k => cs.toList[k]?) 0 l := by
  cases h with
  | agg _ _ hl hc hr =>
    intro j c hj
    have hlt : j < cs.size := by rw [← hl]; exact (List.getElem?_eq_some_iff.1 hj).1
    exact ⟨hc c (List.mem_of_getElem? hj), cs[j], by simp [hlt], hr j c _ hj (by simp [hlt])⟩

theorem agg_size {l : List V} {cs : Array Value} (h : Rel σ K w (.agg l) (.agg cs)) : l.length = cs.size := by
  cases h; assumption

theorem elem_under {t el : TypeId} (h : elemOf C.P t = some el) : C.P.underlying t = some (.slice el) := by
  unfold elemOf at h
  split at h
  · rename_i e hu; injection h with h; subst h; exact hu
  · cases h

theorem ok_buildSlice (inv : Inv σ K H w) {t : TypeId} {len : Nat} {parts : Array (Nat × Operand)} {e : Operand → V} {ρ : Operand → Value} (E : ∀ x, Rel σ K w (e x) (ρ x)) (h : opV C e (.buildSlice t len parts) H = some (v, H')) :
    ∃ z w' K', (Instr.buildSlice t len (parts.map fun (i, x) => (i, ρ x))).run C.P w = .ok z w' ∧ Rel σ K' w' v z ∧ Inv σ K' H' w' ∧ Evo K H w K' H' w' := by
  cases he : elemOf C.P t with
  | none => simp [opV, he, M.fail] at h
  | some el =>
  have hu := elem_under he
  cases hz : zeroC C.P el with
  | none => simp [opV, he, hz, M.fail] at h
  | some z =>
  obtain ⟨i, zv, hi, hzv, hrz⟩ := zeroC_rel (σ := σ) (K := K) (w := w) hz
  simp only [opV, he, hz] at h
  split at h
  · rename_i hh
    obtain ⟨h0, h1, h2⟩ := hh
    have hp : (parts.map fun (x : Nat × Operand) => (x.1, ρ x.2)).toList = parts.toList.map fun p => (p.1, ρ p.2) := by simp
    have hzs : zv.cells.size = C.P.cellsOf el := by rw [← agg_size hrz, h1]
    cases len with
    | zero =>
      cases hpl : parts.toList with
      | cons p l => rw [hpl] at h; simp [sliceV] at h
      | nil =>
        rw [hpl] at h
        simp only [sliceV, List.map_nil, Option.some.injEq, Prod.mk.injEq] at h
        obtain ⟨rfl, rfl⟩ := h
        obtain ⟨j1, j2⟩ := inv.junk (Obj.cells #[] el)
        refine ⟨.slice (some ⟨w.heap.size, 0, none⟩) 0 0, _, K, ?_, .emp _, j1, j2⟩
        rw [hpl] at hp
        simp only [Instr.buildSlice, Sem.run_bind, run_underlying hu, Result.andThen_ok, run_sizeOf hi, hp]
        simp [Instr.fill, newRow]
        congr 2
        simp [Array.range_zero']
    | succ len =>
      simp only [sliceV] at h
      cases hfr : fillRows (C.P.cellsOf el) (List.replicate (len + 1) z) (parts.toList.map fun p => (p.1, e p.2)) with
      | none => rw [hfr] at h; simp at h
      | some rows =>
        rw [hfr] at h
        simp only [Option.bind_some, newRows, Option.some.injEq, Prod.mk.injEq] at h
        obtain ⟨rfl, rfl⟩ := h
        have hs0 : ∀ r ∈ List.replicate (len + 1) z, r.length = C.P.cellsOf el := fun r hr => by rw [List.eq_of_mem_replicate hr]; exact h1
        obtain ⟨g1, g2, g3⟩ := fillRows_flat _ _ _ hs0 hfr
        have hzr := zeros_rel hrz (by rw [hzs]; exact h0) (len + 1)
        have hps : (parts.toList.mapM fun p => ((some (p.1 * C.P.cellsOf el, C.P.cellsOf el) : Option (Nat × Nat))).map fun os => (os.1, os.2, e p.2)) = some (parts.toList.map fun p => (p.1 * C.P.cellsOf el, C.P.cellsOf el, e p.2)) := mapM_some _ _ (fun _ => rfl) _
        rw [List.map_map] at g1
        obtain ⟨cs', k1, k2, k3⟩ := fill_ok E (fun i => some (i * C.P.cellsOf el, C.P.cellsOf el)) parts.toList _ hps _ _ _ hzr g1
        have hlen : rows.length = len + 1 := by rw [g3]; simp
        have hsz : (len + 1) * C.P.cellsOf el ≤ cs'.size := by rw [k3]; simp [hzs]
        obtain ⟨K', j1, j2, j3⟩ := newRows_ok inv el (C.P.cellsOf el) rows cs' rows.length true g2 (Nat.le_refl _) (by rw [hlen]; exact hsz) (fun _ => rfl) (agg_cells k2)
        refine ⟨_, _, K', ?_, j3, j1, j2⟩
        have hne : ¬ ((len + 1) * C.P.cellsOf el = 0) := by
          intro e0
          rcases Nat.mul_eq_zero.1 e0 with e0 | e0 <;> omega
        simp only [Instr.buildSlice, Sem.run_bind, run_underlying hu, Result.andThen_ok, run_sizeOf hi]
        rw [if_neg (by omega)]
        simp only [Sem.run_bind, Sem.run_pure, Result.andThen_ok, if_neg hne, run_zeroValue hi hzv]
        rw [hp, ← hzs]
        rw [← hzs] at k1
        simp only [k1, Sem.run_bind, newRow, run_newObj_alloc, Result.andThen_ok, Sem.run_pure, hlen]
  · cases h

/-- The rows that a slice shows, as the model reads them. -/
theorem items_ok (inv : Inv σ K H w) {sz : Nat} {y : V} {b : Value} (hy : Rel σ K w y b) {items : List (List V)} (h : itemsV sz y H = some items) :
    ∃ xs : List Value, (∀ w', (Builtin.lenOf b).run C.P w' = .ok items.length w') ∧ (∀ w' : World, w'.heap = w.heap → (Builtin.firstCells sz items.length b).run C.P w' = .ok xs.toArray w') ∧
      (∀ k, k ≤ items.length → ∀ w' : World, w'.heap = w.heap → (Builtin.firstCells sz k b).run C.P w' = .ok (xs.take (k * sz)).toArray w') ∧
      (∀ r ∈ items, r.length = sz) ∧ xs.length = items.length * sz ∧ (∀ (j : Nat) c x, items.flatten[j]? = some c → xs[j]? = some x → Rel σ K w c x) ∧ (∀ c ∈ items.flatten, c.isCell = true) ∧ (∀ x ∈ xs, x.oneCell' = true) := by
  have fromCells : ∀ (blk base n cap : Nat) (rows : List (List V)), rows.length = n → (∀ r ∈ rows, r.length = sz) → CellsAt σ K w (fun k => w.cell? ⟨blk, k, none⟩) base rows.flatten →
      ∃ xs : List Value, (∀ w', (Builtin.lenOf (.slice (some ⟨blk, base, none⟩) n cap)).run C.P w' = .ok rows.length w') ∧ (∀ w' : World, w'.heap = w.heap → (Builtin.firstCells sz rows.length (.slice (some ⟨blk, base, none⟩) n cap)).run C.P w' = .ok xs.toArray w') ∧
      (∀ k, k ≤ rows.length → ∀ w' : World, w'.heap = w.heap → (Builtin.firstCells sz k (.slice (some ⟨blk, base, none⟩) n cap)).run C.P w' = .ok (xs.take (k * sz)).toArray w') ∧
      (∀ r ∈ rows, r.length = sz) ∧ xs.length = rows.length * sz ∧ (∀ (j : Nat) c x, rows.flatten[j]? = some c → xs[j]? = some x → Rel σ K w c x) ∧ (∀ c ∈ rows.flatten, c.isCell = true) ∧ (∀ x ∈ xs, x.oneCell' = true) := by
    intro blk base n cap rows hn hs hc
    obtain ⟨xs, e1, e2, e3, e4⟩ := hc.vals
    have hfl := flatten_length rows hs
    have hx : xs.length = rows.length * sz := by rw [e1, hfl]
    have hk : ∀ k, k ≤ rows.length → ∀ w' : World, w'.heap = w.heap → (Builtin.firstCells sz k (.slice (some ⟨blk, base, none⟩) n cap)).run C.P w' = .ok (xs.take (k * sz)).toArray w' := by
      intro k hk w' hw'
      have hkl : (xs.take (k * sz)).length = k * sz := by
        rw [List.length_take, hx]
        have : k * sz ≤ rows.length * sz := Nat.mul_le_mul_right _ hk
        omega
      have := run_loadCells_list (P := C.P) w' ⟨blk, base, none⟩ (xs.take (k * sz)) (fun j x hj => by
        rw [List.getElem?_take] at hj
        split at hj
        · have hadd : (⟨blk, base, none⟩ : Addr).add j = ⟨blk, base + j, none⟩ := by unfold Addr.add; split <;> simp_all
          rw [hadd]
          have := e2 j x hj
          simpa [World.cell?, hw'] using this
        · cases hj)
      rw [hkl] at this
      simpa [Builtin.firstCells] using this
    refine ⟨xs, fun w' => by simp [Builtin.lenOf, hn], fun w' hw' => ?_, hk, hs, hx, e3, hc.cell, e4⟩
    have := hk rows.length (Nat.le_refl _) w' hw'
    rwa [← hx, List.take_length] at this
  have none_ : ∀ b : Value, (∀ w', (Builtin.lenOf b).run C.P w' = .ok 0 w') → (∀ w' : World, (Builtin.firstCells sz 0 b).run C.P w' = .ok #[] w') → items = [] →
      ∃ xs : List Value, (∀ w', (Builtin.lenOf b).run C.P w' = .ok items.length w') ∧ (∀ w' : World, w'.heap = w.heap → (Builtin.firstCells sz items.length b).run C.P w' = .ok xs.toArray w') ∧
      (∀ k, k ≤ items.length → ∀ w' : World, w'.heap = w.heap → (Builtin.firstCells sz k b).run C.P w' = .ok (xs.take (k * sz)).toArray w') ∧
      (∀ r ∈ items, r.length = sz) ∧ xs.length = items.length * sz ∧ (∀ (j : Nat) c x, items.flatten[j]? = some c → xs[j]? = some x → Rel σ K w c x) ∧ (∀ c ∈ items.flatten, c.isCell = true) ∧ (∀ x ∈ xs, x.oneCell' = true) := by
    intro b h1 h2 h3
    subst h3
    exact ⟨[], h1, fun w' _ => h2 w', fun k hk w' _ => by
      have h0 : k = 0 := by simpa using hk
      subst h0
      simpa using h2 w', by simp, by simp, by simp, by simp, by simp⟩
  cases hy with
  | nils => simp [itemsV] at h; exact none_ _ (fun _ => rfl) (fun _ => rfl) h
  | emp a => simp [itemsV] at h; exact none_ _ (fun _ => rfl) (fun _ => by simp [Builtin.firstCells, loadCells, loadCellsFrom]) h
  | imm0 z a cap =>
    simp only [itemsV] at h
    split at h
    · injection h with h
      exact none_ _ (fun _ => rfl) (fun _ => by simp [Builtin.firstCells, loadCells, loadCellsFrom]) h.symm
    · cases h
  | imm z rows blk off cap val hI hcap hs hc hw hr =>
    simp only [itemsV] at h
    split at h
    · rename_i e
      subst e
      injection h with h
      subst h
      refine fromCells blk off _ cap rows rfl hs ((rows_flat hs).1 fun i r j c hi hj => ⟨V.cell_of_closed (hc r (List.mem_of_getElem? hi) c (List.mem_of_getElem? hj)), val i j, hw i r j c hi hj, hr i r j c hi hj⟩)
    · cases h
  | ref l z s n c ex a cap blk off hl hρ hn hc hex ha =>
    simp only [itemsV] at h
    split at h
    · rename_i e
      subst e
      cases hb : H.blk l with
      | none => rw [hb] at h; simp at h
      | some B =>
        rw [hb] at h
        simp only [Option.bind_some] at h
        split at h
        · rename_i hle
          injection h with h
          have hB := inv.blk l B hb
          obtain ⟨cs, e, g1, g2, g3⟩ := hB.flat
          have hz := hB.sz
          rw [hρ] at g1 g2 g3 hz
          simp only at g1 g2 g3 hz
          subst hz
          have hilen : items.length = n := by rw [← h, List.length_take, List.length_drop]; omega
          by_cases hn0 : n = 0
          · subst hn0
            have : items = [] := List.eq_nil_of_length_eq_zero hilen
            exact none_ _ (fun _ => rfl) (fun _ => by simp [Builtin.firstCells, loadCells, loadCellsFrom]) this
          · obtain ⟨rfl, _⟩ := ha (by omega)
            have hs : ∀ r ∈ items, r.length = B.sz := fun r hr => by
              rw [← h] at hr
              exact hB.rows r (List.mem_of_mem_drop (List.mem_of_mem_take hr))
            refine fromCells blk (off + s * B.sz) n cap items hilen hs ?_
            have hsub : items.flatten = (B.rows.flatten.drop (s * B.sz)).take (n * B.sz) := by
              rw [← h, flatten_take _ (fun r hr => hB.rows r (List.mem_of_mem_drop hr)), flatten_drop _ hB.rows]
            rw [hsub]
            have := (g3.drop (s * B.sz)).take (n * B.sz)
            refine this.congr (fun j _ => ?_)
            show w.cell? ⟨blk, _, none⟩ = _
            rw [g1.cell]
            simp
        · cases h
    · cases h
  | str u =>
    simp only [itemsV] at h
    split at h
    · rename_i e
      subst e
      injection h with h
      have hl : items.length = u.size := by rw [← h]; simp
      have hfl : items.flatten = u.data.toList.map fun b => V.int .u8 b.toNat := by
        rw [← h]
        generalize u.data.toList = l
        induction l with
        | nil => rfl
        | cons b l ih => simp [ih]
      have hex : ∀ k, k ≤ items.length → ∀ w' : World, (Builtin.firstCells 1 k (.string u)).run C.P w' = .ok ((u.data.toList.map fun b => Value.int .u8 b.toNat).take (k * 1)).toArray w' := by
        intro k hk w'
        simp [Builtin.firstCells]
        apply Array.ext'
        rw [Array.toList_extract]
        show ((Array.map _ u.data).toList.drop 0).take (k - 0) = _
        simp
      refine ⟨u.data.toList.map fun b => Value.int .u8 b.toNat, fun w' => by simp [Builtin.lenOf, hl], fun w' _ => ?_, fun k hk w' _ => hex k hk w', ?_, by rw [hl]; simp, ?_, ?_, ?_⟩
      · have := hex items.length (Nat.le_refl _) w'
        rw [this, hl]
        congr 2
        rw [List.take_of_length_le]
        simp
      · intro r hr
        rw [← h] at hr
        simp at hr
        obtain ⟨b, _, rfl⟩ := hr
        rfl
      · intro j c x hc hx
        rw [hfl, List.getElem?_map] at hc
        rw [List.getElem?_map] at hx
        cases hq : u.data.toList[j]? with
        | none => rw [hq] at hc; simp at hc
        | some b => rw [hq] at hc hx; simp at hc hx; subst hc; subst hx; exact .int _ _
      · intro c hc
        rw [hfl] at hc
        simp at hc
        obtain ⟨b, _, rfl⟩ := hc
        rfl
      · intro x hx
        simp at hx
        obtain ⟨b, _, rfl⟩ := hx
        rfl
    · cases h
  | _ => simp [itemsV] at h
end
end Go.Fv

/-! Operations, further: append, copy, clear, make. -/
namespace Go.Fv
open Go

section
variable {C : Cfg} {σ : Nat → Addr} {K : Ctx} {H H' : Heap} {w : World} {v : V}

/-- A stretch of a block of the small heap that a slice shows written over. -/
theorem write_seg (inv : Inv σ K H w) {l s : Nat} {B : Blk} (hb : H.blk l = some B) (hf : H.floor ≤ l) {blk off : Nat} (hρ : K.ρ l = (blk, off, B.sz)) (new : List (List V)) (xs : List Value)
    (hs : ∀ r ∈ new, r.length = B.sz) (hle : s ≤ B.rows.length) (hx : xs.length = new.length * B.sz) (hr : ∀ (j : Nat) c x, new.flatten[j]? = some c → xs[j]? = some x → Rel σ K w c x)
    (hc : ∀ c ∈ new.flatten, c.isCell = true) (h1 : ∀ x ∈ xs, x.oneCell' = true) (hroom : roomAt w blk (off + (s + new.length) * B.sz)) :
    ∃ w', (storeCells ⟨blk, off + s * B.sz, none⟩ xs).run C.P w = .ok () w' ∧
      Inv σ K (H.set l ⟨B.sz, B.rows.take s ++ new ++ B.rows.drop (s + new.length)⟩) w' ∧ Evo K H w K (H.set l ⟨B.sz, B.rows.take s ++ new ++ B.rows.drop (s + new.length)⟩) w' := by
  have hB := inv.blk l B hb
  obtain ⟨cur, e, g1, g2, g3⟩ := hB.flat
  rw [hρ] at g1 g2 g3
  simp only at g1 g2 g3
  have r2 := g1.room hroom
  have hfl := flatten_length B.rows hB.rows
  have hnl := flatten_length new hs
  have hmul : (s + new.length) * B.sz = s * B.sz + new.length * B.sz := Nat.add_mul _ _ _
  have hst := run_storeCells_lies (P := C.P) blk (off + s * B.sz) e xs 0 cur w g1 (by rw [hx]; omega) h1
  simp only [Nat.add_zero] at hst
  have hsmul : s * B.sz ≤ B.rows.length * B.sz := Nat.mul_le_mul_right _ hle
  -- the cells behind
  have hcs : CellsAt σ K w (fun k => (cur.toList.take (off + s * B.sz) ++ xs ++ cur.toList.drop (off + s * B.sz + xs.length))[k]?) off (B.rows.take s ++ new ++ B.rows.drop (s + new.length)).flatten := by
    rw [List.flatten_append, List.flatten_append, flatten_take _ hB.rows, flatten_drop _ hB.rows, hmul]
    intro j c hj
    have hsp := splice_get cur.toList xs (off + s * B.sz) (off + j) (by rw [hx]; simp; omega)
    simp only [hsp]
    have htl : (B.rows.flatten.take (s * B.sz)).length = s * B.sz := by rw [List.length_take]; omega
    by_cases a1 : j < s * B.sz
    · rw [List.append_assoc, List.getElem?_append_left (by omega), List.getElem?_take, if_pos a1] at hj
      rw [if_pos (by omega)]
      exact g3 j c hj
    · rw [if_neg (by omega)]
      by_cases a2 : j < s * B.sz + new.length * B.sz
      · rw [List.append_assoc, List.getElem?_append_right (by omega), htl, List.getElem?_append_left (by omega)] at hj
        rw [if_pos (by omega), show off + j - (off + s * B.sz) = j - s * B.sz by omega]
        have hlt : j - s * B.sz < xs.length := by omega
        exact ⟨hc c (List.mem_of_getElem? hj), xs[j - s * B.sz], List.getElem?_eq_getElem hlt, hr _ c _ hj (List.getElem?_eq_getElem hlt)⟩
      · rw [List.getElem?_append_right (by rw [List.length_append, htl, hnl]; omega), List.length_append, htl, hnl, List.getElem?_drop, show s * B.sz + new.length * B.sz + (j - (s * B.sz + new.length * B.sz)) = j by omega] at hj
        rw [if_neg (by omega)]
        exact g3 j c hj
  have hrows : ∀ r ∈ B.rows.take s ++ new ++ B.rows.drop (s + new.length), r.length = B.sz := fun r hr => by
    simp only [List.mem_append] at hr
    rcases hr with (hr | hr) | hr
    · exact hB.rows r (List.mem_of_mem_take hr)
    · exact hs r hr
    · exact hB.rows r (List.mem_of_mem_drop hr)
  have hlen : (B.rows.take s ++ new ++ B.rows.drop (s + new.length)).length = max B.rows.length (s + new.length) := by
    simp only [List.length_append, List.length_take, List.length_drop]; omega
  have hmax : (max B.rows.length (s + new.length)) * B.sz = max (B.rows.length * B.sz) ((s + new.length) * B.sz) := by
    rcases Nat.le_total B.rows.length (s + new.length) with g | g
    · rw [Nat.max_eq_right g, Nat.max_eq_right (Nat.mul_le_mul_right _ g)]
    · rw [Nat.max_eq_left g, Nat.max_eq_left (Nat.mul_le_mul_right _ g)]
  generalize hcs' : cur.toList.take (off + s * B.sz) ++ xs ++ cur.toList.drop (off + s * B.sz + xs.length) = cs' at hst hcs
  have hl' : cs'.length = cur.size := by rw [← hcs']; simp only [List.length_append, List.length_take, List.length_drop, Array.length_toList]; omega
  obtain ⟨j1, j2⟩ := inv.writeFlat hb hf (cs := cur) (e := e) (by rw [hρ]; exact g1) hl' hrows (by rw [hρ, hlen, hmax]; simp only; omega) (by rw [hρ]; exact hcs)
  rw [hρ] at j1 j2
  exact ⟨_, hst, j1, j2⟩

/-- What an append comes to. -/
theorem run_append {P : Program} {t1 t2 ty el : TypeId} {ats : Array TypeId} (ha : ats[0]? = some t1) (hb : ats[1]? = some t2) (hu : P.underlying t1 = some (.slice el)) {d2 : TypeDesc} (hu2 : P.underlying t2 = some d2)
    (hd2 : ∀ k, d2 ≠ .int k) {i : TypeInfo} (hi : P.info? el = some i) {zv : Value} (hz : i.zero = some zv) {base : Option Addr} {sLen sCap n : Nat} {b : Value} {xs : List Value}
    (hlen : (Builtin.lenOf b).run P w = .ok n w) (hf : ∀ w' : World, w'.heap = w.heap → (Builtin.firstCells (P.cellsOf el) n b).run P w' = .ok xs.toArray w') :
    (sLen + n ≤ sCap → (Builtin.append_ ats ty #[.slice base sLen sCap, b]).run P w =
      (match base with | some a => (storeCells (a.add (sLen * P.cellsOf el)) xs).run P w | none => .ok () w).andThen fun _ w' => .ok (.slice base (sLen + n) sCap) w') ∧
    (∀ olds : List Value, sCap < sLen + n → ((sLen + n : Nat) : Int) ≤ IntKind.i64.max → Builtin.nextslicecap (sLen + n) sCap * P.bytesOf el ≤ 281474976710656 →
      (∀ w' : World, w'.heap = w.heap → (Builtin.firstCells (P.cellsOf el) sLen (.slice base sLen sCap)).run P w' = .ok olds.toArray w') →
      (Builtin.append_ ats ty #[.slice base sLen sCap, b]).run P w = .ok (.slice (some ⟨w.heap.size, 0, none⟩) (sLen + n) (grownCap w (sLen + n) sCap el))
        (w.drew.alloc (Obj.cells ((olds ++ xs).toArray ++ Builtin.zeroCells zv.cells (grownCap w (sLen + n) sCap el - (sLen + n))) el))) := by
  have hnz : (match d2 with | .int _ => true | _ => false) = false := by cases d2 <;> first | rfl | exact absurd rfl (hd2 _)
  have hmt : ((underlying t2 >>= fun d => pure (match d with | .int _ => true | _ => false)) : Sem Bool).run P w = .ok false w := by
    rw [Sem.run_bind, run_underlying hu2]; simp [hnz]
  have hby : i.bytes = P.bytesOf el := by simp [Program.bytesOf, hi]
  constructor
  · intro hle
    cases base with
    | none =>
      simp only [Builtin.append_, ha, hb]
      simp [run_underlying hu, run_underlying hu2, run_sizeOf hi, hnz, hlen, hle, hf w rfl]
    | some a =>
      simp only [Builtin.append_, ha, hb]
      simp [run_underlying hu, run_underlying hu2, run_sizeOf hi, hnz, hlen, hle, hf w rfl]
  · intro olds hlt h63 hcap hold
    have hn : ¬ (sLen + n ≤ sCap) := by omega
    have hm : IntKind.i64.max = 9223372036854775807 := by decide
    rw [hm] at h63
    have h63' : ¬ (9223372036854775807 < ((sLen : Int) + (n : Int))) := by omega
    have h48' : ¬ (281474976710656 < Builtin.nextslicecap (sLen + n) sCap * i.bytes) := by rw [hby]; omega
    have hfo := hold w.drew rfl
    have hf' := hf w.drew rfl
    simp only [Builtin.append_, ha, hb]
    simp [run_underlying hu, run_underlying hu2, run_sizeOf hi, hlen, hn, hm, typeInfo, zeroValue, hi, hz, h63', h48', Question.forced, hf', hfo, newRow, grownCap]
    congr 2
    apply Array.ext'
    simp

/-- A row goes on under a new name. -/
theorem Inv.rename (inv : Inv σ K H w) {l s m : Nat} {B : Blk} (hb : H.blk l = some B) (hf : H.floor ≤ l) (hsm : s + m ≤ B.rows.length) :
    ∃ K', Inv σ K' ((H.kill l).add ⟨B.sz, (B.rows.drop s).take m⟩) w ∧ Evo K H w K' ((H.kill l).add ⟨B.sz, (B.rows.drop s).take m⟩) w ∧ K'.nx = K.nx + 1 ∧ K'.ρ K.nx = ((K.ρ l).1, (K.ρ l).2.1 + s * B.sz, B.sz) ∧ K'.D K.nx := by
  let K' : Ctx := ⟨K.I, fun x => if x = K.nx then ((K.ρ l).1, (K.ρ l).2.1 + s * B.sz, B.sz) else K.ρ x, K.nx + 1, fun l => K.D l ∨ l = K.nx⟩
  have hB := inv.blk l B hb
  have hlnx : l < H.next := by rw [← inv.nx]; exact inv.dom l hB.lt
  have ρo : ∀ x, x ≠ H.next → K'.ρ x = K.ρ x := fun x e => by show (if x = K.nx then _ else _) = _; rw [if_neg (by rw [inv.nx]; exact e)]
  have ρn : K'.ρ H.next = ((K.ρ l).1, (K.ρ l).2.1 + s * B.sz, B.sz) := by show (if H.next = K.nx then _ else _) = _; rw [if_pos inv.nx.symm]
  have old : ∀ x B', ((H.kill l).add ⟨B.sz, (B.rows.drop s).take m⟩).blk x = some B' → x ≠ H.next → x ≠ l ∧ H.blk x = some B' := fun x B' h e => by
    have h1 : (if x = H.next then some (⟨B.sz, (B.rows.drop s).take m⟩ : Blk) else if x = l then none else H.blk x) = some B' := h
    rw [if_neg e] at h1
    by_cases e' : x = l
    · rw [if_pos e'] at h1; cases h1
    · rw [if_neg e'] at h1; exact ⟨e', h1⟩
  have new : ∀ B', ((H.kill l).add ⟨B.sz, (B.rows.drop s).take m⟩).blk H.next = some B' → B' = ⟨B.sz, (B.rows.drop s).take m⟩ := fun B' h => by
    have h1 : (if H.next = H.next then some (⟨B.sz, (B.rows.drop s).take m⟩ : Blk) else _) = some B' := h
    rw [if_pos rfl] at h1
    injection h1 with h1
    exact h1.symm
  have evo : Evo K H w K' ((H.kill l).add ⟨B.sz, (B.rows.drop s).take m⟩) w := {
    I := fun _ h => h
    ρ := fun x hx => ρo x (by have := inv.dom x hx; rw [inv.nx] at this; omega)
    D := fun _ h => .inl h
    nx := Nat.le_succ _
    floor := rfl
    low := fun x h1 h2 => by
      show (if x = H.next then _ else if x = l then none else H.blk x) = _
      rw [if_neg (by omega), if_neg (by omega)]
    frame := fun _ _ _ => rfl
    shape := fun b cs e f h => ⟨cs, f, h, rfl⟩
    size := Nat.le_refl _
    os := rfl
    tape := rfl
    output := rfl
    range := fun x B' h _ => by
      by_cases e : x = H.next
      · subst e
        exact ⟨l, B, hb, by rw [ρn], .inr hf⟩
      · obtain ⟨_, h2⟩ := old x B' h e
        exact ⟨x, B', h2, by rw [ρo x e], .inl rfl⟩
    newI := fun _ h _ => h
    newD := fun l h hlt => h.resolve_right (by omega) }
  have mv := inv.moves evo
  refine ⟨K', ⟨by show K.nx + 1 = H.next + 1; rw [inv.nx], fun l h => by show l < K.nx + 1; rcases h with h | h; (have := inv.dom l h; omega); omega, Nat.le_succ_of_le inv.flo, ?_, ?_, fun b hb => inv.imm b hb⟩, evo, rfl, by rw [inv.nx]; exact ρn, .inr rfl⟩
  · intro x B' h
    by_cases e : x = H.next
    · subst e
      have := new B' h
      subst this
      obtain ⟨cs, e0, g1, g2, g3⟩ := hB.flat
      have hmul : (s + m) * B.sz ≤ B.rows.length * B.sz := Nat.mul_le_mul_right _ hsm
      rw [Nat.add_mul] at hmul
      have hs : ∀ r ∈ (B.rows.drop s).take m, r.length = B.sz := fun r hr => hB.rows r (List.mem_of_mem_drop (List.mem_of_mem_take hr))
      have hlen : ((B.rows.drop s).take m).length = m := by rw [List.length_take, List.length_drop]; omega
      refine ⟨.inr inv.nx.symm, by rw [ρn], by rw [ρn]; exact hB.own, hs, cs, e0, by rw [ρn]; exact g1, by rw [ρn]; simp only [hlen]; omega, ?_⟩
      rw [ρn]
      simp only
      have hc : CellsAt σ K w (fun k => cs.toList[k]?) ((K.ρ l).2.1 + s * B.sz) ((B.rows.drop s).take m).flatten := by
        rw [flatten_take _ (fun r hr => hB.rows r (List.mem_of_mem_drop hr)), flatten_drop _ hB.rows]
        exact (g3.drop _).take _
      have := (rows_flat hs).2 (hc.mono mv)
      simpa using this
    · obtain ⟨_, h2⟩ := old x B' h e
      have h0 := inv.blk x B' h2
      obtain ⟨cs0, e0, g1, g2, g3⟩ := h0.at_
      refine ⟨.inl h0.lt, by rw [ρo x e]; exact h0.sz, by rw [ρo x e]; exact h0.own, h0.rows, cs0, e0, by rw [ρo x e]; exact g1, by rw [ρo x e]; exact g2, ?_⟩
      intro i r j c hi hj
      obtain ⟨h4, y, h5, h6⟩ := g3 i r j c hi hj
      exact ⟨h4, y, by rw [ρo x e]; exact h5, h6.mono mv⟩
  · intro x y Bx By hx hy he
    by_cases ex : x = H.next <;> by_cases ey : y = H.next
    · rw [ex, ey]
    · subst ex
      obtain ⟨ny, hy2⟩ := old y By hy ey
      rw [ρn, ρo y ey] at he
      exact absurd (inv.inj _ _ _ _ hb hy2 he).symm ny
    · subst ey
      obtain ⟨nx, hx2⟩ := old x Bx hx ex
      rw [ρn, ρo x ex] at he
      exact absurd (inv.inj _ _ _ _ hx2 hb he) nx
    · obtain ⟨_, hx2⟩ := old x Bx hx ex
      obtain ⟨_, hy2⟩ := old y By hy ey
      rw [ρo x ex, ρo y ey] at he
      exact inv.inj _ _ _ _ hx2 hy2 he

theorem kill_set (H : Heap) (l : Nat) (b : Blk) : (H.set l b).kill l = H.kill l := by
  unfold Heap.set Heap.kill
  congr 1
  funext x
  by_cases e : x = l
  · simp [e]
  · simp [e]

theorem grow_ok (inv : Inv σ K H w) {el : TypeId} {zv : Value} {sz need sCap : Nat} (hzs : zv.cells.size = sz) (rows : List (List V)) (hn : rows.length = need) (hs : ∀ r ∈ rows, r.length = sz) (xs : List Value)
    (hx : xs.length = need * sz) (hr : ∀ (j : Nat) c x, rows.flatten[j]? = some c → xs[j]? = some x → Rel σ K w c x) (hc : ∀ c ∈ rows.flatten, c.isCell = true) :
    ∃ K', Inv σ K' (H.add ⟨sz, rows⟩) (w.drew.alloc (Obj.cells (xs.toArray ++ Builtin.zeroCells zv.cells (grownCap w need sCap el - need)) el)) ∧
      Evo K H w K' (H.add ⟨sz, rows⟩) (w.drew.alloc (Obj.cells (xs.toArray ++ Builtin.zeroCells zv.cells (grownCap w need sCap el - need)) el)) ∧
      Rel σ K' (w.drew.alloc (Obj.cells (xs.toArray ++ Builtin.zeroCells zv.cells (grownCap w need sCap el - need)) el)) (.ref H.next sz 0 need need false) (.slice (some ⟨w.heap.size, 0, none⟩) need (grownCap w need sCap el)) := by
  obtain ⟨d1, d2⟩ := inv.drew
  have hge := grownCap_ge w need sCap el
  have hfl := flatten_length rows hs
  subst hn
  obtain ⟨K', j1, j2, j3⟩ := newRows_ok d1 el sz rows (xs.toArray ++ Builtin.zeroCells zv.cells (grownCap w rows.length sCap el - rows.length)) (grownCap w rows.length sCap el) false hs hge
    (by simp only [Array.size_append, List.size_toArray, size_zeroCells, hzs, hx, ← Nat.add_mul]; exact Nat.mul_le_mul_right _ (by omega)) (fun h => by cases h)
    (fun j c hj => by
      have hlt : j < xs.length := by rw [hx, ← hfl]; exact (List.getElem?_eq_some_iff.1 hj).1
      refine ⟨hc c (List.mem_of_getElem? hj), xs[j], ?_, (hr j c _ hj (List.getElem?_eq_getElem hlt)).mono (inv.moves d2)⟩
      simp [List.getElem?_append_left hlt, hlt])
  exact ⟨K', j1, Evo.trans inv d1 d2 j2, j3⟩

theorem nextslicecap_fits {need old bytes : Nat} (h : old < need) (hb : need * bytes ≤ room) : Builtin.nextslicecap need old * bytes ≤ 281474976710656 := growslice_fits h hb

theorem ok_append (inv : Inv σ K H w) {t1 t2 ty el : TypeId} {ats : Array TypeId} (ha : ats[0]? = some t1) (hb : ats[1]? = some t2) (hu : C.P.underlying t1 = some (.slice el)) {d2 : TypeDesc} (hu2 : C.P.underlying t2 = some d2)
    (hd2 : ∀ k, d2 ≠ .int k) {z : List V} (hz : zeroC C.P el = some z) (hzl : z.length = C.P.cellsOf el) (hby : 0 < C.P.bytesOf el) {x y : V} {a b : Value} (hx : Rel σ K w x a) (hy : Rel σ K w y b)
    (h : appV (C.P.cellsOf el) (C.P.bytesOf el) x y H = some (v, H')) :
    ∃ c w' K', (Builtin.append_ ats ty #[a, b]).run C.P w = .ok c w' ∧ Rel σ K' w' v c ∧ Inv σ K' H' w' ∧ Evo K H w K' H' w' := by
  obtain ⟨i, zv, hi, hzv, hrz⟩ := zeroC_rel (σ := σ) (K := K) (w := w) hz
  have hzs : zv.cells.size = C.P.cellsOf el := by rw [← agg_size hrz, hzl]
  have hroom : room = 140737488355328 := rfl
  have hmx : IntKind.i64.max = 9223372036854775807 := by decide
  unfold appV at h
  cases hit : itemsV (C.P.cellsOf el) y H with
  | none => rw [hit] at h; simp at h
  | some items =>
  rw [hit] at h
  simp only [Option.bind_some] at h
  obtain ⟨xs, i1, i2, i2', i3, i4, i5, i6, i7⟩ := items_ok (C := C) inv hy hit
  -- nothing behind: the slice itself
  have same : ∀ (base : Option Addr) (n cap : Nat), a = .slice base n cap → n ≤ cap → items = [] → ∃ c w' K', (Builtin.append_ ats ty #[a, b]).run C.P w = .ok c w' ∧ Rel σ K' w' x c ∧ Inv σ K' H w' ∧ Evo K H w K' H w' := by
    intro base n cap ea hle h0
    subst ea; subst h0
    have hxs : xs = [] := List.eq_nil_of_length_eq_zero (by simpa using i4)
    subst hxs
    obtain ⟨r1, _⟩ := run_append (w := w) (ty := ty) (base := base) (sLen := n) (sCap := cap) ha hb hu hu2 hd2 hi hzv (i1 w) i2
    have := r1 (by simpa using hle)
    refine ⟨.slice base n cap, w, K, ?_, hx, inv, .refl _ _ _⟩
    rw [this]
    cases base <;> simp [storeCells]
  -- a new row, of a slice that holds nothing
  have fresh : ∀ (base : Option Addr), a = .slice base 0 0 → items ≠ [] → items.length * C.P.bytesOf el ≤ room →
      ∃ c w' K', (Builtin.append_ ats ty #[a, b]).run C.P w = .ok c w' ∧ Rel σ K' w' (.ref H.next (C.P.cellsOf el) 0 items.length items.length false) c ∧ Inv σ K' (H.add ⟨C.P.cellsOf el, items⟩) w' ∧ Evo K H w K' (H.add ⟨C.P.cellsOf el, items⟩) w' := by
    intro base ea hne hbyt
    subst ea
    have hpos : 0 < items.length := List.length_pos_iff.2 hne
    obtain ⟨_, r2⟩ := run_append (w := w) (ty := ty) (base := base) (sLen := 0) (sCap := 0) ha hb hu hu2 hd2 hi hzv (i1 w) i2
    have hle : items.length ≤ room := Nat.le_trans (Nat.le_mul_of_pos_right _ hby) hbyt
    have := r2 [] (by omega) (by rw [hmx]; omega) (nextslicecap_fits (by omega) (by simpa using hbyt)) (fun w' _ => by cases base <;> simp [Builtin.firstCells, loadCells, loadCellsFrom])
    simp only [Nat.zero_add, List.nil_append] at this
    obtain ⟨K', j1, j2, j3⟩ := grow_ok inv (el := el) (sCap := 0) hzs items rfl i3 xs i4 i5 i6
    exact ⟨_, _, K', this, j3, j1, j2⟩
  unfold appR at h
  cases hx' : hx with
  | nils =>
    cases hit0 : items with
    | nil => rw [hit0] at h; simp only [Option.some.injEq, Prod.mk.injEq] at h; obtain ⟨rfl, rfl⟩ := h; exact same none 0 0 rfl (Nat.le_refl _) hit0
    | cons r rs =>
      rw [hit0] at h
      simp only at h
      rw [← hit0] at h
      split at h
      · rename_i hbyt
        simp only [newRows, Option.some.injEq, Prod.mk.injEq] at h
        obtain ⟨rfl, rfl⟩ := h
        exact fresh none rfl (by rw [hit0]; simp) hbyt
      · cases h
  | emp ad =>
    cases hit0 : items with
    | nil => rw [hit0] at h; simp only [Option.some.injEq, Prod.mk.injEq] at h; obtain ⟨rfl, rfl⟩ := h; exact same (some ad) 0 0 rfl (Nat.le_refl _) hit0
    | cons r rs =>
      rw [hit0] at h
      simp only at h
      rw [← hit0] at h
      split at h
      · rename_i hbyt
        simp only [newRows, Option.some.injEq, Prod.mk.injEq] at h
        obtain ⟨rfl, rfl⟩ := h
        exact fresh (some ad) rfl (by rw [hit0]; simp) hbyt
      · cases h
  | imm0 sz' ad cap =>
    simp only at h
    split at h
    · rename_i h0
      simp only [Option.some.injEq, Prod.mk.injEq] at h
      obtain ⟨rfl, rfl⟩ := h
      exact same (some ad) 0 cap rfl (Nat.zero_le _) h0
    · cases h
  | imm sz' rows blk off cap val hI hcap hs hc hw hr =>
    simp only at h
    split at h
    · rename_i h0
      simp only [Option.some.injEq, Prod.mk.injEq] at h
      obtain ⟨rfl, rfl⟩ := h
      exact same (some _) rows.length cap rfl hcap h0
    · cases h
  | ref l sz' s n c ex ad cap blk off hl hρ hn hcc hex hadr =>
    cases hit0 : items with
    | nil => rw [hit0] at h; simp only [Option.some.injEq, Prod.mk.injEq] at h; obtain ⟨rfl, rfl⟩ := h; exact same (some ad) n cap rfl (by omega) hit0
    | cons r rs =>
      rw [hit0] at h
      simp only at h
      rw [← hit0] at h
      have hpos : 0 < items.length := by rw [hit0]; simp
      split at h
      · rename_i hz'
        subst hz'
        cases hB : H.blk l with
        | none => rw [hB] at h; simp at h
        | some B =>
          rw [hB] at h
          simp only [Option.bind_some] at h
          have hBB := inv.blk l B hB
          have hsz : B.sz = C.P.cellsOf el := by have := hBB.sz; rw [hρ] at this; exact this.symm
          split at h
          · rename_i hsn
            split at h
            · -- in place
              rename_i hfit
              split at h
              · rename_i hfl
                simp only [Option.some.injEq, Prod.mk.injEq] at h
                obtain ⟨rfl, rfl⟩ := h
                obtain ⟨rfl, hrm⟩ := hadr (by omega)
                have hrm' : roomAt w blk (off + (s + n + items.length) * B.sz) := by
                  obtain ⟨cs, e', f, q1, q2⟩ := hrm
                  rw [hsz]
                  exact ⟨cs, e', f, q1, Nat.le_trans (Nat.add_le_add_left (Nat.mul_le_mul_right _ (by omega)) _) q2⟩
                obtain ⟨w', k1, k2, k3⟩ := write_seg (C := C) inv hB hfl (by rw [hsz]; exact hρ) (s := s + n) items xs (by rw [hsz]; exact i3) hsn (by rw [hsz]; exact i4) i5 i6 i7 hrm'
                obtain ⟨r1, _⟩ := run_append (w := w) (ty := ty) (base := some ⟨blk, off + s * C.P.cellsOf el, none⟩) (sLen := n) (sCap := cap) ha hb hu hu2 hd2 hi hzv (i1 w) i2
                have := r1 (by omega)
                have hadd : (⟨blk, off + s * C.P.cellsOf el, none⟩ : Addr).add (n * C.P.cellsOf el) = ⟨blk, off + (s + n) * B.sz, none⟩ := by
                  rw [hsz, Nat.add_mul, ← Nat.add_assoc]; unfold Addr.add; split <;> simp_all
                refine ⟨.slice (some ⟨blk, off + s * C.P.cellsOf el, none⟩) (n + items.length) cap, w', K, ?_, ?_, k2, k3⟩
                · rw [this]; simp only [hadd, k1, Result.andThen_ok]
                · exact (Rel.ref l _ s (n + items.length) c ex _ cap blk off hl hρ hfit hcc hex hadr).mono (inv.moves k3)
              · cases h
            · rename_i hfit
              split at h
              · rename_i hbyt
                -- the rows as they were, and the new ones
                have hold := items_ok (C := C) inv hx (items := (B.rows.drop s).take n) (sz := C.P.cellsOf el) (by simp [itemsV, hB, hsn])
                obtain ⟨os, _, o2, _, o3, o4, o5, o6, _⟩ := hold
                have hol : ((B.rows.drop s).take n).length = n := by rw [List.length_take, List.length_drop]; omega
                rw [hol] at o2 o4
                have hle : n + items.length ≤ room := Nat.le_trans (Nat.le_mul_of_pos_right _ hby) hbyt
                have grow : ∀ {H1 : Heap}, Inv σ K H1 w → cap < n + items.length →
                    ∃ cc w' K', (Builtin.append_ ats ty #[.slice (some ad) n cap, b]).run C.P w = .ok cc w' ∧ Rel σ K' w' (.ref H1.next (C.P.cellsOf el) 0 (n + items.length) (n + items.length) false) cc ∧
                      Inv σ K' (H1.add ⟨C.P.cellsOf el, (B.rows.drop s).take n ++ items⟩) w' ∧ Evo K H1 w K' (H1.add ⟨C.P.cellsOf el, (B.rows.drop s).take n ++ items⟩) w' := by
                  intro H1 inv1 hlt
                  obtain ⟨_, r2⟩ := run_append (w := w) (ty := ty) (base := some ad) (sLen := n) (sCap := cap) ha hb hu hu2 hd2 hi hzv (i1 w) i2
                  have := r2 os hlt (by rw [hmx]; omega) (nextslicecap_fits hlt hbyt) o2
                  obtain ⟨K', j1, j2, j3⟩ := grow_ok inv1 (el := el) (sCap := cap) hzs ((B.rows.drop s).take n ++ items) (need := n + items.length) (by rw [List.length_append, hol])
                    (fun r hr => by rcases List.mem_append.1 hr with hr | hr; exact o3 r hr; exact i3 r hr) (os ++ xs) (by rw [List.length_append, o4, i4, Nat.add_mul])
                    (fun j cc xx hj hxx => by
                      have hfo := flatten_length _ o3
                      rw [hol] at hfo
                      rw [List.flatten_append] at hj
                      by_cases g : j < n * C.P.cellsOf el
                      · rw [List.getElem?_append_left (by omega)] at hj hxx
                        exact o5 j cc xx hj hxx
                      · rw [List.getElem?_append_right (by omega)] at hj hxx
                        rw [hfo] at hj
                        rw [o4] at hxx
                        exact i5 _ cc xx hj hxx)
                    (fun cc hcc' => by rw [List.flatten_append] at hcc'; rcases List.mem_append.1 hcc' with hh | hh; exact o6 cc hh; exact i6 cc hh)
                  exact ⟨_, _, K', this, j3, j1, j2⟩
                cases ex with
                | true =>
                  simp only [if_true, newRows, Option.some.injEq, Prod.mk.injEq] at h
                  obtain ⟨rfl, rfl⟩ := h
                  rw [List.length_append, hol]
                  exact grow inv (by have := hex rfl; omega)
                | false =>
                  simp only [Bool.false_eq_true, if_false] at h
                  split at h
                  · rename_i hfl
                    simp only [newRows, Option.some.injEq, Prod.mk.injEq] at h
                    obtain ⟨rfl, rfl⟩ := h
                    rw [List.length_append, hol]
                    by_cases hin : n + items.length ≤ cap
                    · -- there was room: the old row goes on under a new name
                      obtain ⟨rfl, hrm⟩ := hadr (by omega)
                      have hrm' : roomAt w blk (off + (s + n + items.length) * B.sz) := by
                        obtain ⟨cs, e', f, q1, q2⟩ := hrm
                        rw [hsz]
                        exact ⟨cs, e', f, q1, Nat.le_trans (Nat.add_le_add_left (Nat.mul_le_mul_right _ (by omega)) _) q2⟩
                      obtain ⟨w', k1, k2, k3⟩ := write_seg (C := C) inv hB hfl (by rw [hsz]; exact hρ) (s := s + n) items xs (by rw [hsz]; exact i3) hsn (by rw [hsz]; exact i4) i5 i6 i7 hrm'
                      obtain ⟨r1, _⟩ := run_append (w := w) (ty := ty) (base := some ⟨blk, off + s * C.P.cellsOf el, none⟩) (sLen := n) (sCap := cap) ha hb hu hu2 hd2 hi hzv (i1 w) i2
                      have hrun := r1 hin
                      have hadd : (⟨blk, off + s * C.P.cellsOf el, none⟩ : Addr).add (n * C.P.cellsOf el) = ⟨blk, off + (s + n) * B.sz, none⟩ := by
                        rw [hsz, Nat.add_mul, ← Nat.add_assoc]; unfold Addr.add; split <;> simp_all
                      let B1 : Blk := ⟨B.sz, B.rows.take (s + n) ++ items ++ B.rows.drop (s + n + items.length)⟩
                      have hb1 : (H.set l B1).blk l = some B1 := by show (if l = l then _ else _) = _; rw [if_pos rfl]
                      have hl1 : s + (n + items.length) ≤ B1.rows.length := by
                        show _ ≤ (B.rows.take (s + n) ++ items ++ B.rows.drop (s + n + items.length)).length
                        simp only [List.length_append, List.length_take, List.length_drop]; omega
                      obtain ⟨K', m1, m2, m3, m4, m5⟩ := Inv.rename k2 hb1 hfl hl1
                      have hrow : (B1.rows.drop s).take (n + items.length) = (B.rows.drop s).take n ++ items := by
                        show ((B.rows.take (s + n) ++ items ++ B.rows.drop (s + n + items.length)).drop s).take (n + items.length) = _
                        have ht : (B.rows.take (s + n)).length = s + n := by rw [List.length_take]; omega
                        rw [List.append_assoc, List.drop_append, ht, show s - (s + n) = 0 by omega, List.drop_zero, List.drop_take, show s + n - s = n by omega, List.take_append, hol, show n + items.length - n = items.length by omega, List.take_of_length_le (by rw [hol]; omega), List.take_append, List.take_of_length_le (Nat.le_refl _)]
                        simp
                      rw [hrow, kill_set] at m1 m2
                      have hBz : B1.sz = C.P.cellsOf el := hsz
                      have hE := Evo.trans inv k2 k3 m2
                      rw [hBz] at m1 hE m4
                      refine ⟨.slice (some ⟨blk, off + s * C.P.cellsOf el, none⟩) (n + items.length) cap, w', K', ?_, ?_, m1, hE⟩
                      · rw [hrun]; simp only [hadd, k1, Result.andThen_ok]
                      · have hnx : K.nx = H.next := inv.nx
                        rw [hρ] at m4
                        simp only at m4
                        rw [hnx] at m4 m5
                        exact .ref _ _ 0 _ _ false _ cap blk (off + s * C.P.cellsOf el) m5 m4 (Nat.le_refl _) hin (fun h => by cases h) (fun _ => ⟨by simp, by
                          have := hrm.mono k3.shape
                          obtain ⟨cs, e', f, q1, q2⟩ := this
                          exact ⟨cs, e', f, q1, by rw [Nat.add_mul] at q2; rw [Nat.zero_add]; omega⟩⟩)
                    · obtain ⟨k1, k2⟩ := inv.kill hfl
                      obtain ⟨cc, w', K', q1, q2, q3, q4⟩ := grow k1 (by omega)
                      exact ⟨cc, w', K', q1, q2, q3, Evo.trans inv k1 k2 q4⟩
                  · cases h
              · cases h
          · cases h
      · cases h
  | _ => simp at h

theorem ok_copy (inv : Inv σ K H w) {t1 ty el : TypeId} {ats : Array TypeId} (ha : ats[0]? = some t1) (hu : C.P.underlying t1 = some (.slice el)) {i : TypeInfo} (hi : C.P.info? el = some i) {x y : V} {a b : Value} (hx : Rel σ K w x a) (hy : Rel σ K w y b)
    (h : copyV (C.P.cellsOf el) x y H = some (v, H')) :
    ∃ c w' K', (Builtin.copy_ ats ty #[a, b]).run C.P w = .ok c w' ∧ Rel σ K' w' v c ∧ Inv σ K' H' w' ∧ Evo K H w K' H' w' := by
  unfold copyV at h
  cases hit : itemsV (C.P.cellsOf el) y H with
  | none => rw [hit] at h; simp at h
  | some items =>
  rw [hit] at h
  simp only [Option.bind_some] at h
  obtain ⟨xs, i1, i2, i2', i3, i4, i5, i6, i7⟩ := items_ok (C := C) inv hy hit
  cases hx with
  | nils =>
    simp only [Option.some.injEq, Prod.mk.injEq] at h
    obtain ⟨rfl, rfl⟩ := h
    have := i2' 0 (Nat.zero_le _) w rfl
    exact ⟨goInt 0, w, K, by simp [Builtin.copy_, ha, run_underlying hu, i1 w, run_sizeOf hi, Nat.min_def, this], .int _ _, inv, .refl _ _ _⟩
  | emp ad =>
    simp only [Option.some.injEq, Prod.mk.injEq] at h
    obtain ⟨rfl, rfl⟩ := h
    have := i2' 0 (Nat.zero_le _) w rfl
    exact ⟨goInt 0, w, K, by simp [Builtin.copy_, ha, run_underlying hu, i1 w, run_sizeOf hi, Nat.min_def, this, storeCells], .int _ _, inv, .refl _ _ _⟩
  | ref l sz' s n c ex ad cap blk off hl hρ hn hcc hex hadr =>
    simp only at h
    split at h
    · rename_i hh
      obtain ⟨hz, hfl⟩ := hh
      subst hz
      cases hB : H.blk l with
      | none => rw [hB] at h; simp at h
      | some B =>
        rw [hB] at h
        simp only [Option.bind_some] at h
        have hBB := inv.blk l B hB
        have hsz : B.sz = C.P.cellsOf el := by have := hBB.sz; rw [hρ] at this; exact this.symm
        split at h
        · rename_i hsn
          simp only [Option.some.injEq, Prod.mk.injEq] at h
          obtain ⟨rfl, rfl⟩ := h
          let k := min items.length n
          have hk : k ≤ items.length := Nat.min_le_left _ _
          have hkn : k ≤ n := Nat.min_le_right _ _
          have hlt : (items.take k).length = k := by rw [List.length_take]; omega
          by_cases h0 : cap = 0
          · have hn0 : n = 0 := by omega
            have hk0 : min items.length n = 0 := by omega
            have := i2' 0 (Nat.zero_le _) w rfl
            rw [hk0]
            have hsame : H.set l ⟨B.sz, B.rows.take s ++ items.take 0 ++ B.rows.drop (s + 0)⟩ = H := by
              unfold Heap.set
              have : (⟨B.sz, B.rows.take s ++ items.take 0 ++ B.rows.drop (s + 0)⟩ : Blk) = B := by cases B; simp
              rw [this]
              cases H
              congr 1
              funext x
              by_cases e : x = l
              · simp only [e, if_true]; exact hB.symm
              · simp [e]
            rw [hsame]
            exact ⟨goInt 0, w, K, by simp [Builtin.copy_, ha, run_underlying hu, i1 w, run_sizeOf hi, show items.length.min n = 0 from hk0, this, storeCells], .int _ _, inv, .refl _ _ _⟩
          · obtain ⟨rfl, hrm⟩ := hadr (by omega)
            have hrm' : roomAt w blk (off + (s + (items.take k).length) * B.sz) := by
              obtain ⟨cs, e', f, q1, q2⟩ := hrm
              rw [hsz, hlt]
              exact ⟨cs, e', f, q1, Nat.le_trans (Nat.add_le_add_left (Nat.mul_le_mul_right _ (by omega)) _) q2⟩
            have hfo : (items.take k).flatten = items.flatten.take (k * C.P.cellsOf el) := flatten_take _ i3 _
            have hkm : k * C.P.cellsOf el ≤ items.length * C.P.cellsOf el := Nat.mul_le_mul_right _ hk
            obtain ⟨w', k1, k2, k3⟩ := write_seg (C := C) inv hB hfl (by rw [hsz]; exact hρ) (s := s) (items.take k) (xs.take (k * C.P.cellsOf el)) (fun r hr => by rw [hsz]; exact i3 r (List.mem_of_mem_take hr)) (by omega)
              (by rw [hsz, hlt, List.length_take, i4]; omega)
              (fun j cc xx hj hxx => by
                rw [hfo, List.getElem?_take] at hj
                rw [List.getElem?_take] at hxx
                split at hj
                · rename_i g; rw [if_pos g] at hxx; exact i5 j cc xx hj hxx
                · cases hj)
              (fun cc hcc' => by rw [hfo] at hcc'; exact i6 cc (List.mem_of_mem_take hcc')) (fun xx hxx => i7 xx (List.mem_of_mem_take hxx)) hrm'
            rw [hlt] at k2 k3
            have hrd := i2' k hk w rfl
            refine ⟨goInt k, w', K, ?_, .int _ _, k2, k3⟩
            rw [hsz] at k1
            have hk1 : (storeCells ⟨blk, off + s * C.P.cellsOf el, none⟩ (xs.take (k * C.P.cellsOf el))).run C.P w = .ok () w' := k1
            simp [Builtin.copy_, ha, run_underlying hu, i1 w, run_sizeOf hi, show items.length.min n = k from rfl, hrd, hk1]
        · cases h
    · cases h
  | _ => simp at h

theorem ok_clear (inv : Inv σ K H w) {t1 ty el : TypeId} {ats : Array TypeId} (ha : ats[0]? = some t1) (hu : C.P.underlying t1 = some (.slice el)) {z : List V} (hz : zeroC C.P el = some z) (hzl : z.length = C.P.cellsOf el) (h0 : 0 < C.P.cellsOf el)
    {x : V} {a : Value} (hx : Rel σ K w x a) (h : clearV (C.P.cellsOf el) z x H = some (v, H')) :
    ∃ c w' K', (Builtin.clear_ ats ty #[a]).run C.P w = .ok c w' ∧ Rel σ K' w' v c ∧ Inv σ K' H' w' ∧ Evo K H w K' H' w' := by
  obtain ⟨i, zv, hi, hzv, hrz⟩ := zeroC_rel (σ := σ) (K := K) (w := w) hz
  have hzs : zv.cells.size = C.P.cellsOf el := by rw [← agg_size hrz, hzl]
  have tup : ∀ (K : Ctx) (w : World), Rel σ K w (.tuple []) (.tuple #[]) := fun K w => .tuple [] #[] rfl (fun i a b h => by simp at h)
  unfold clearV at h
  cases hx with
  | nils =>
    simp only [Option.some.injEq, Prod.mk.injEq] at h
    obtain ⟨rfl, rfl⟩ := h
    exact ⟨.tuple #[], w, K, by simp [Builtin.clear_, ha, run_underlying hu], tup _ _, inv, .refl _ _ _⟩
  | emp ad =>
    simp only [Option.some.injEq, Prod.mk.injEq] at h
    obtain ⟨rfl, rfl⟩ := h
    exact ⟨.tuple #[], w, K, by simp [Builtin.clear_, ha, run_underlying hu], tup _ _, inv, .refl _ _ _⟩
  | ref l sz' s n c ex ad cap blk off hl hρ hn hcc hex hadr =>
    simp only at h
    split at h
    · rename_i hh
      obtain ⟨hz', hfl⟩ := hh
      subst hz'
      cases hB : H.blk l with
      | none => rw [hB] at h; simp at h
      | some B =>
        rw [hB] at h
        simp only [Option.bind_some] at h
        have hBB := inv.blk l B hB
        have hsz : B.sz = C.P.cellsOf el := by have := hBB.sz; rw [hρ] at this; exact this.symm
        split at h
        · rename_i hsn
          simp only [Option.some.injEq, Prod.mk.injEq] at h
          obtain ⟨rfl, rfl⟩ := h
          by_cases hn0 : n = 0
          · subst hn0
            have hsame : H.set l ⟨B.sz, B.rows.take s ++ List.replicate 0 z ++ B.rows.drop (s + 0)⟩ = H := by
              unfold Heap.set
              have : (⟨B.sz, B.rows.take s ++ List.replicate 0 z ++ B.rows.drop (s + 0)⟩ : Blk) = B := by cases B; simp
              rw [this]
              cases H
              congr 1
              funext x
              by_cases e : x = l
              · simp only [e, if_true]; exact hB.symm
              · simp [e]
            rw [hsame]
            exact ⟨.tuple #[], w, K, by simp [Builtin.clear_, ha, run_underlying hu], tup _ _, inv, .refl _ _ _⟩
          · obtain ⟨rfl, hrm⟩ := hadr (by omega)
            have hrm' : roomAt w blk (off + (s + (List.replicate n z).length) * B.sz) := by
              obtain ⟨cs, e', f, q1, q2⟩ := hrm
              rw [hsz, List.length_replicate]
              exact ⟨cs, e', f, q1, Nat.le_trans (Nat.add_le_add_left (Nat.mul_le_mul_right _ (by omega)) _) q2⟩
            have hzr := zeros_rel hrz (by rw [hzs]; exact h0) n
            have hcl := agg_cells hzr
            have hzc : Builtin.zeroCells zv.cells n = (Array.range (n * zv.cells.size)).map fun i => zv.cells[i % zv.cells.size]! := rfl
            obtain ⟨w', k1, k2, k3⟩ := write_seg (C := C) inv hB hfl (by rw [hsz]; exact hρ) (s := s) (List.replicate n z) (Builtin.zeroCells zv.cells n).toList (fun r hr => by rw [hsz, List.eq_of_mem_replicate hr]; exact hzl) (by omega)
              (by rw [hsz, Array.length_toList, size_zeroCells, hzs, List.length_replicate])
              (fun j cc xx hj hxx => by
                rw [hzc] at hxx
                obtain ⟨_, y, q1, q2⟩ := hcl j cc hj
                simp only [Nat.zero_add] at q1
                rw [hxx] at q1
                injection q1 with q1
                subst q1
                exact q2)
              (fun cc hcc' => hcl.cell cc hcc')
              (fun xx hxx => by
                obtain ⟨j, hj⟩ := List.getElem?_of_mem hxx
                rw [hzc] at hj
                have hjl : j < (List.replicate n z).flatten.length := by
                  have := (List.getElem?_eq_some_iff.1 hj).1
                  rw [agg_size hzr]; simpa using this
                obtain ⟨q0, y, q1, q2⟩ := hcl j _ (List.getElem?_eq_getElem hjl)
                simp only [Nat.zero_add] at q1
                rw [hj] at q1
                injection q1 with q1
                subst q1
                exact q2.oneCell q0) hrm'
            rw [List.length_replicate] at k2 k3
            rw [hsz] at k1
            refine ⟨.tuple #[], w', K, ?_, tup _ _, k2, k3⟩
            obtain ⟨n', rfl⟩ : ∃ n', n = n' + 1 := ⟨n - 1, by omega⟩
            simp [Builtin.clear_, ha, run_underlying hu, run_zeroValue hi hzv, k1]
        · cases h
    · cases h
  | _ => simp at h

theorem ok_make (inv : Inv σ K H w) {t el : TypeId} (hu : C.P.underlying t = some (.slice el)) {z : List V} (hz : zeroC C.P el = some z) (hzl : z.length = C.P.cellsOf el) (h0 : 0 < C.P.cellsOf el)
    {x y : V} {a b : Value} (hx : Rel σ K w x a) (hy : Rel σ K w y b) (h : makeV (C.P.cellsOf el) (C.P.bytesOf el) z x y H = some (v, H')) :
    ∃ c w' K', (Instr.makeSlice t a b).run C.P w = .ok c w' ∧ Rel σ K' w' v c ∧ Inv σ K' H' w' ∧ Evo K H w K' H' w' := by
  obtain ⟨i, zv, hi, hzv, hrz⟩ := zeroC_rel (σ := σ) (K := K) (w := w) hz
  have hzs : zv.cells.size = C.P.cellsOf el := by rw [← agg_size hrz, hzl]
  have hby : i.bytes = C.P.bytesOf el := by simp [Program.bytesOf, hi]
  have hroom : room = 140737488355328 := rfl
  unfold makeV at h
  cases hn : natOf x with
  | none => rw [hn] at h; simp at h
  | some n =>
  rw [hn] at h
  simp only [Option.bind_some] at h
  cases hc : natOf y with
  | none => rw [hc] at h; simp at h
  | some c =>
  rw [hc] at h
  simp only [Option.bind_some] at h
  split at h
  · rename_i hh
    obtain ⟨hnc, hb1, hb2⟩ := hh
    obtain ⟨k, rfl⟩ := natOf_rel hx hn
    obtain ⟨k', rfl⟩ := natOf_rel hy hc
    have hwrap : ∀ n : Nat, n ≤ room → IntKind.i64.wrap (n : Int) = n := fun n hb2 => by
      have e1 : ((n : Int) % 2 ^ 64) = n := Int.emod_eq_of_lt (by omega) (by omega)
      simp only [IntKind.wrap, IntKind.bits, IntKind.signed, e1, Bool.true_and]
      rw [if_neg]
      simp
      omega
    have hwn := hwrap n (Nat.le_trans hnc hb2)
    have hwc := hwrap c hb2
    have hbn : ¬ (281474976710656 < ((i.bytes : Nat) : Int) * (c : Int)) := by
      rw [hby]
      have h1 : ((c * C.P.bytesOf el : Nat) : Int) ≤ (140737488355328 : Nat) := Int.ofNat_le.2 hb1
      rw [Int.natCast_mul] at h1
      have h2 : ((C.P.bytesOf el : Nat) : Int) * (c : Int) = (c : Int) * ((C.P.bytesOf el : Nat) : Int) := Int.mul_comm _ _
      omega
    have hneg : ¬ ((n : Int) < 0) := by omega
    have hnegc : ¬ ((c : Int) < 0) := by omega
    have hlt : ¬ (c < n) := by omega
    have hrun : (Instr.makeSlice t (.int k (n : Int)) (.int k' (c : Int))).run C.P w = .ok (.slice (some ⟨w.heap.size, 0, none⟩) n c) (w.alloc (Obj.cells ((Array.range (c * C.P.cellsOf el)).map fun i => (if c * C.P.cellsOf el = 0 then #[] else zv.cells)[i % (if c * C.P.cellsOf el = 0 then #[] else zv.cells).size]!) el)) := by
      by_cases e : c * C.P.cellsOf el = 0
      · simp [Instr.makeSlice, run_underlying hu, asInt, asIntOf, typeInfo, hi, hwn, hwc, hbn, hneg, hnegc, hlt, run_sizeOf hi, e, newRow]
      · simp [Instr.makeSlice, run_underlying hu, asInt, asIntOf, typeInfo, hi, hwn, hwc, hbn, hneg, hnegc, hlt, run_sizeOf hi, e, newRow, run_zeroValue hi hzv]
    cases c with
    | zero =>
      simp only [Option.some.injEq, Prod.mk.injEq] at h
      obtain ⟨rfl, rfl⟩ := h
      obtain rfl : n = 0 := by omega
      obtain ⟨j1, j2⟩ := inv.junk (Obj.cells ((Array.range (0 * C.P.cellsOf el)).map fun i => (if 0 * C.P.cellsOf el = 0 then #[] else zv.cells)[i % (if 0 * C.P.cellsOf el = 0 then #[] else zv.cells).size]!) el)
      exact ⟨_, _, K, hrun, .emp _, j1, j2⟩
    | succ c =>
      simp only [newCap, Option.some.injEq, Prod.mk.injEq] at h
      obtain ⟨rfl, rfl⟩ := h
      have hne : ¬ ((c + 1) * C.P.cellsOf el = 0) := fun e0 => by rcases Nat.mul_eq_zero.1 e0 with e0 | e0 <;> omega
      rw [if_neg hne] at hrun
      have hzr := zeros_rel hrz (by rw [hzs]; exact h0) (c + 1)
      rw [hzs] at hzr
      have hs : ∀ r ∈ List.replicate (c + 1) z, r.length = C.P.cellsOf el := fun r hr => by rw [List.eq_of_mem_replicate hr]; exact hzl
      obtain ⟨K', j1, j2, j3⟩ := newRows_ok inv el (C.P.cellsOf el) (List.replicate (c + 1) z) _ (c + 1) true hs (by simp) (by simp) (fun _ => by simp) (agg_cells hzr)
      rw [List.length_replicate] at j3
      rw [List.length_replicate]
      rw [hzs] at hrun
      refine ⟨_, _, K', hrun, ?_, j1, j2⟩
      cases j3 with
      | ref _ _ _ _ _ _ _ _ b off hl hρ hn' hc' hex ha => exact .ref _ _ _ n _ _ _ _ b off hl hρ hnc hc' hex ha
  · cases h
end
end Go.Fv

/-! Operations, further: bytes and strings. -/
namespace Go.Fv
open Go

section
variable {C : Cfg} {σ : Nat → Addr} {K : Ctx} {H H' : Heap} {w : World} {v : V}

theorem mapM_byte : ∀ {rows : List (List V)} {l : List UInt8}, rows.mapM byteOf = some l → ∃ ns : List Int, rows = ns.map (fun n => [V.int .u8 n]) ∧ l = ns.map fun n => UInt8.ofNat n.toNat
  | [], l, h => by simp at h; exact ⟨[], rfl, by simpa using h.symm⟩
  | r :: rows, l, h => by
    rw [List.mapM_cons] at h
    cases hb : byteOf r with
    | none => rw [hb] at h; cases h
    | some b =>
      rw [hb] at h
      cases hm : rows.mapM byteOf with
      | none => rw [hm] at h; cases h
      | some l' =>
        rw [hm] at h
        have h' : b :: l' = l := by simpa using h
        obtain ⟨ns, e1, e2⟩ := mapM_byte hm
        have : ∃ n : Int, r = [V.int .u8 n] ∧ b = UInt8.ofNat n.toNat := by
          unfold byteOf at hb
          split at hb
          · rename_i n
            exact ⟨n, rfl, by injection hb with hb; exact hb.symm⟩
          · cases hb
        obtain ⟨n, e3, e4⟩ := this
        exact ⟨n :: ns, by rw [e1, e3]; rfl, by rw [← h', e2, e4]; rfl⟩

theorem foldl_push (ns : List Int) : ∀ s : ByteArray, (ns.foldl (fun r n => r.push (UInt8.ofNat n.toNat)) s).data.toList = s.data.toList ++ ns.map fun n => UInt8.ofNat n.toNat := by
  induction ns with
  | nil => intro s; simp
  | cons n ns ih =>
    intro s
    rw [List.foldl_cons, ih]
    simp [ByteArray.push]

theorem foldl_push_eq (ns : List Int) : ns.foldl (fun r n => r.push (UInt8.ofNat n.toNat)) ByteArray.empty = ⟨(ns.map fun n => UInt8.ofNat n.toNat).toArray⟩ := by
  have h := foldl_push ns ByteArray.empty
  generalize ns.foldl (fun r n => r.push (UInt8.ofNat n.toNat)) ByteArray.empty = b at h
  cases b with
  | mk d =>
    congr 1
    apply Array.ext'
    rw [h]
    rfl

theorem isByte_eq {P : Program} {t : TypeId} (h : isByte P t = true) : P.underlying t = some (.int .u8) := by
  unfold isByte at h
  split at h
  · assumption
  · cases h

/-- A string of bytes that lie in memory. -/
theorem ok_readBytes (inv : Inv σ K H w) {s d el : TypeId} (hs : C.P.underlying s = some (.slice el)) (hd : C.P.underlying d = some .string) (he : C.P.underlying el = some (.int .u8)) {x : V} {a : Value} (hx : Rel σ K w x a)
    (h : readBytes x H = some (v, H')) : ∃ z, (convert s d a).run C.P w = .ok z w ∧ Rel σ K w v z ∧ H' = H := by
  have hns : ∀ u, x ≠ .str u := fun u e => by rw [e] at h; cases h
  have h' : ∃ rows b, itemsV 1 x H = some rows ∧ bytesOf rows = some b ∧ v = .str b ∧ H' = H := by
    unfold readBytes at h
    split at h
    · cases h
    · cases hi : itemsV 1 x H with
      | none => rw [hi] at h; cases h
      | some rows =>
        rw [hi] at h
        cases hb : bytesOf rows with
        | none => rw [Option.bind_some, hb] at h; cases h
        | some b =>
          rw [Option.bind_some, hb] at h
          simp only [Option.bind_some, Option.some.injEq, Prod.mk.injEq] at h
          exact ⟨rows, b, rfl, hb, h.1.symm, h.2.symm⟩
  obtain ⟨rows, b, hi, hb, rfl, rfl⟩ := h'
  unfold bytesOf at hb
  cases hm : rows.mapM byteOf with
  | none => rw [hm] at hb; cases hb
  | some l =>
  rw [hm] at hb
  have hb' : (⟨l.toArray⟩ : ByteArray) = b := by simpa using hb
  obtain ⟨ns, e1, e2⟩ := mapM_byte hm
  obtain ⟨xs, q1, q2, _, _, q5, q6, _, _⟩ := items_ok (C := C) inv hx hi
  have hfl : rows.flatten = ns.map fun n => V.int .u8 n := by
    rw [e1]
    clear e1 e2 hm hi q1 q2 q5 q6 hb hb'
    induction ns with
    | nil => rfl
    | cons n ns ih => simp [ih]
  have hlen : rows.length = ns.length := by rw [e1]; simp
  have hxs : xs = ns.map (Value.int .u8) := by
    apply List.ext_getElem?
    intro j
    rw [List.getElem?_map]
    cases hn : ns[j]? with
    | none =>
      have : ns.length ≤ j := by simpa using hn
      simp
      omega
    | some n =>
      have hj : j < ns.length := (List.getElem?_eq_some_iff.1 hn).1
      have hjx : j < xs.length := by omega
      have := q6 j (.int .u8 n) xs[j] (by rw [hfl, List.getElem?_map, hn]; rfl) (List.getElem?_eq_getElem hjx)
      rw [List.getElem?_eq_getElem hjx]
      generalize xs[j] = y at this
      cases this
      rfl
  have fin : ∀ (ad : Addr) (n cap : Nat), a = .slice (some ad) n cap → ∃ z, (convert s d a).run C.P w = .ok z w ∧ Rel σ K w (.str b) z := by
    rintro ad n cap rfl
    have hn : n = rows.length := by
      have := q1 w
      simp [Builtin.lenOf] at this
      exact this
    have hl := q2 w rfl
    simp only [Builtin.firstCells, Nat.mul_one] at hl
    rw [← hn, hxs] at hl
    refine ⟨_, (run_convert_bytes_string w s d el _ _ _ hs he hd).trans (run_bytesToString w ad n cap ns hl), ?_⟩
    rw [foldl_push_eq, ← e2, hb']
    exact .str _
  cases hx with
  | nils =>
    have hr : rows = [] := by simp [itemsV] at hi; exact hi
    have hn0 : ns = [] := by rw [hr] at hlen; exact List.eq_nil_of_length_eq_zero (by simpa using hlen.symm)
    refine ⟨_, (run_convert_bytes_string w s d el _ _ _ hs he hd).trans (by unfold Conv.bytesToString; exact Sem.run_pure ..), ?_, rfl⟩
    rw [← hb', e2, hn0]
    exact .str _
  | emp ad => exact (fin _ _ _ rfl).imp fun _ h => ⟨h.1, h.2, rfl⟩
  | imm0 sz ad cap => exact (fin _ _ _ rfl).imp fun _ h => ⟨h.1, h.2, rfl⟩
  | imm sz rows' b' off cap val hI hcap hs hc hw hr => exact (fin _ _ _ rfl).imp fun _ h => ⟨h.1, h.2, rfl⟩
  | ref l' sz s' n c ex a' cap b' off hl hρ hn hc hex ha => exact (fin _ _ _ rfl).imp fun _ h => ⟨h.1, h.2, rfl⟩
  | str u => exact absurd rfl (hns u)
  | _ => simp [itemsV] at hi

theorem modify_push {α : Type} (h : Array α) (o : α) (f : α → α) : (h.push o).modify h.size f = h.push (f o) := by
  apply Array.ext'
  have : ∀ l : List α, (l ++ [o]).modify l.length f = l ++ [f o] := fun l => by
    induction l with
    | nil => rfl
    | cons a l ih => simp [ih]
  have h0 := this h.toList
  simpa [Array.toList_modify] using h0

theorem freeze_alloc (w : World) (cs : Array Value) (e : TypeId) : (w.alloc (Obj.cells cs e)).freeze ⟨w.heap.size, cs.size, none⟩ 1 = w.alloc (Obj.cells cs e (cs.size, cs.size + 1)) := by
  have : (w.heap.push (Obj.cells cs e)).modify w.heap.size (fun
      | .cells c elem (lo, hi) => .cells c elem (if lo == hi then (cs.size, cs.size + 1) else (min lo cs.size, max hi (cs.size + 1)))
      | o => o) = w.heap.push (Obj.cells cs e (cs.size, cs.size + 1)) := modify_push _ _ _
  unfold World.freeze
  rw [if_neg (by decide)]
  show World.mk _ _ _ _ _ = World.mk _ _ _ _ _
  exact congrArg (fun h => { w with heap := h }) this

theorem shape_alloc (w : World) (cs : Array Value) (e : TypeId) : (w.alloc (Obj.cells cs e)).shape? w.heap.size = some (e, cs.size) := by
  unfold World.shape?
  rw [heap_alloc_new w _]
theorem shape_alloc' (w : World) (cs : Array Value) (e : TypeId) : (w.drew.alloc (Obj.cells cs e)).shape? w.heap.size = some (e, cs.size) := shape_alloc w.drew cs e

/-- The bytes of a string in memory of their own. -/
theorem ok_newBytes (inv : Inv σ K H w) {s d el : TypeId} (hs : C.P.underlying s = some .string) (hd : C.P.underlying d = some (.slice el)) (he : C.P.underlying el = some (.int .u8)) (u : ByteArray)
    (h : newRows 1 (bytesRows u) false H = some (v, H')) : ∃ z w' K', (convert s d (.string u)).run C.P w = .ok z w' ∧ Rel σ K' w' v z ∧ Inv σ K' H' w' ∧ Evo K H w K' H' w' := by
  simp only [newRows, Option.some.injEq, Prod.mk.injEq] at h
  obtain ⟨rfl, rfl⟩ := h
  have hcap := grownCap_ge w u.size 0 el
  generalize hcs : ((u.data.map fun b => Value.int .u8 b.toNat) ++ Array.replicate (grownCap w u.size 0 el - u.size) (Value.int .u8 0) : Array Value) = cs
  have hrun : (convert s d (.string u)).run C.P w = .ok (.slice (some ⟨w.heap.size, 0, none⟩) u.size (grownCap w u.size 0 el)) (w.drew.alloc (Obj.cells cs el (cs.size, cs.size + 1))) := by
    rw [← freeze_alloc, ← hcs]
    simp [convert, run_underlying hs, run_underlying hd, run_underlying he, Conv.stringToBytes, Question.forced, newRow, grownCap, markStringish, shape_alloc', freeze]
    rfl
  obtain ⟨d1, d2⟩ := inv.drew
  have hlen : (bytesRows u).length = u.size := by simp [bytesRows]
  have hcl : cs.toList = (u.data.toList.map fun b => Value.int .u8 b.toNat) ++ List.replicate (grownCap w u.size 0 el - u.size) (Value.int .u8 0) := by rw [← hcs]; simp
  have hfl : (bytesRows u).flatten = u.data.toList.map fun b => V.int .u8 b.toNat := by
    unfold bytesRows
    generalize u.data.toList = l
    induction l with
    | nil => rfl
    | cons b l ih => simp [ih]
  obtain ⟨K', j1, j2, j3⟩ := newRows_okF (cs.size, cs.size + 1) d1 el 1 (bytesRows u) cs (.inr (Nat.le_refl _)) (grownCap w u.size 0 el) false
    (fun r hr => by
      unfold bytesRows at hr
      rw [List.mem_map] at hr
      obtain ⟨b, _, rfl⟩ := hr
      rfl)
    (by rw [hlen]; exact hcap)
    (by
      have : cs.size = cs.toList.length := by simp
      rw [this, hcl]
      simp
      have : u.size = u.data.size := rfl
      omega)
    (fun h => by cases h)
    (fun j c hj => by
      rw [hfl, List.getElem?_map] at hj
      cases hb : u.data.toList[j]? with
      | none => rw [hb] at hj; cases hj
      | some b =>
        rw [hb] at hj
        cases hj
        have hjl : j < (u.data.toList.map fun b => Value.int .u8 b.toNat).length := by rw [List.length_map]; exact (List.getElem?_eq_some_iff.1 hb).1
        refine ⟨rfl, Value.int .u8 b.toNat, ?_, .int _ _⟩
        show cs.toList[0 + j]? = _
        rw [Nat.zero_add, hcl, List.getElem?_append_left hjl, List.getElem?_map, hb]
        rfl)
  rw [hlen] at j3
  exact ⟨_, _, K', hrun, by rw [hlen]; exact j3, j1, Evo.trans inv d1 d2 j2⟩

theorem ok_convM (inv : Inv σ K H w) {s d : TypeId} {x : V} {a : Value} (hx : Rel σ K w x a) (h : convM C.P s d x H = some (v, H')) :
    ∃ z w' K', (convert s d a).run C.P w = .ok z w' ∧ Rel σ K' w' v z ∧ Inv σ K' H' w' ∧ Evo K H w K' H' w' := by
  unfold convM at h
  have rest : M.lift (convV C.P s d x) H = some (v, H') → ∃ z w' K', (convert s d a).run C.P w = .ok z w' ∧ Rel σ K' w' v z ∧ Inv σ K' H' w' ∧ Evo K H w K' H' w' := fun h => by
    obtain ⟨h2, rfl⟩ := lift_eq h
    obtain ⟨z, h3, h4⟩ := ok_conv hx h2
    exact ⟨z, w, K, h3, h4, inv, .refl _ _ _⟩
  cases hs : C.P.underlying s with
  | none => rw [hs] at h; exact rest h
  | some us =>
  cases hd : C.P.underlying d with
  | none => rw [hs, hd] at h; cases us <;> exact rest h
  | some ud =>
  rw [hs, hd] at h
  cases us <;> cases ud
  case slice.string el =>
    simp only at h
    split at h
    · rename_i he
      obtain ⟨z, h1, h2, rfl⟩ := ok_readBytes (C := C) inv hs hd (isByte_eq he) hx h
      exact ⟨z, w, K, h1, h2, inv, .refl _ _ _⟩
    · cases h
  case string.slice el =>
    simp only at h
    split at h
    · rename_i he
      cases hx <;> first | exact ok_newBytes inv hs hd (isByte_eq he) _ h | cases h
    · cases h
  all_goals exact rest h
end
end Go.Fv
