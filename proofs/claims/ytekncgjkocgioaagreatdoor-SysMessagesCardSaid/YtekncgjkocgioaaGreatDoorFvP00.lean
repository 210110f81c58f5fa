/-
  A value semantics of the model's code: slices that come in are plain lists of rows, what a By an AI agent; no person has read it.
-/
import Derived.Orders
import Derived.Below
set_option linter.unusedVariables false
set_option linter.unusedSimpArgs false
set_option linter.unusedSectionVars false
/-! A value semantics of the model's code: slices that come in are plain lists of rows, what a -/
namespace Go.Fv
open Go
inductive V where
 | undef
 | bool (b:Bool)
 | int (k:IntKind) (n:Int)
 | str (s:ByteArray)
 | agg (l:List V)
 | tuple (l:List V)
 | nilp
 | ptr (l i off:Nat)
 | iptr (row:List V) (off:Nat)
 | ext (k:Nat)
 | nils
 | emp
 | imm (sz:Nat) (rows:List (List V))
 | own (sz:Nat) (rows:List (List V))
 | deep (sz:Nat) (rows:List (List V))
 | ref (l sz s n c:Nat) (ex:Bool)
 | sub (l i o n c:Nat)
 | nili
 | iface (t:TypeId) (v:V)
 | nilf
 | fn (f:FuncId) (caps:List V)
 | bfn (f:FuncId) (first:List V)
 | mp (l:Nat)
 deriving Inhabited
def V.isCell:V → Bool
 | .undef | .agg _ | .tuple _ | .own _ _ | .deep _ _ => false
 | _ => true
def V.cells?:V → Option (List V)
 | .agg l => some l
 | .undef | .tuple _ | .own _ _ | .deep _ _ => none
 | v => some [v]
structure Blk where
 sz:Nat
 rows:List (List V)
structure Heap where
 blk:Nat → Option Blk
 next:Nat
 floor:Nat
def Heap.empty:Heap:=⟨fun _ => none,0,0⟩
def Heap.set (h:Heap) (l:Nat) (b:Blk):Heap:=⟨fun x => if x = l then some b else h.blk x,h.next,h.floor⟩
def Heap.add (h:Heap) (b:Blk):Heap:=⟨fun x => if x = h.next then some b else h.blk x,h.next + 1,h.floor⟩
def Heap.kill (h:Heap) (l:Nat):Heap:=⟨fun x => if x = l then none else h.blk x,h.next,h.floor⟩
def M (α:Type):=Heap → Option (α × Heap)
def M.ret {α:Type} (a:α):M α:=fun h => some (a,h)
def M.bind {α β:Type} (m:M α) (f:α → M β):M β:=fun h => (m h).bind fun x => f x.1 x.2
def M.lift {α:Type} (o:Option α):M α:=fun h => o.bind fun a => some (a,h)
def M.fail {α:Type}:M α:=fun _ => none
abbrev GV:=Nat → Option (List V)
abbrev CV:=FuncId → List V → M V
inductive Kind where
 | inl | pure | own | ext | exts | extm
structure Cfg where
 P:Program
 G:Nat → Option (List V)
 kind:FuncId → Kind
 X:FuncId → List V → Option V
 S:Nat → Bool:=fun _ => false
 Z:Nat → Option Value:=fun _ => none
 T:Nat → Option (Array Value):=fun _ => none
 Y:FuncId → List V → M V:=fun _ _ => M.fail

def cst:Value → V
 | .bool b => .bool b
 | .int k n => .int k n
 | .string s => .str s
 | .pointer none => .nilp
 | .slice none 0 0 => .nils
 | .nilIface => .nili
 | .nilFunc => .nilf
 | _ => .undef
def cstV:Value → V
 | .agg cs => if (cs.toList.map cst).all V.isCell then .agg (cs.toList.map cst) else .undef
 | v => cst v
def zeroC (P:Program) (t:TypeId):Option (List V):=((P.info? t).bind (·.zero)).bind fun z => (cstV z).cells?
abbrev Env:=Nat → V
def glob (C:Cfg) (g:Nat):V:=match C.G g with | some row => .iptr row 0 | none => .undef
def ev (C:Cfg) (env:Env):Operand → V
 | .tmp t => env t
 | .const v => cstV v
 | .global g => match C.G g with | some row => .iptr row 0 | none => .undef
 | .func f => .fn f []
def isAgg (P:Program) (t:TypeId):Option Bool :=
 match P.underlying t with
 | some (.struct _) | some (.array _ _) => some true
 | some _ => some false
 | none => none
def placeV (p:V) (h:Heap):Option (List V × Nat) :=
 match p with
 | .ptr l i o => (h.blk l).bind fun b => (b.rows[i]?).bind fun r => some (r,o)
 | .iptr r o => some (r,o)
 | _ => none
def load1 (p:V):M V:=fun h => (placeV p h).bind fun x => (x.1[x.2]?).bind fun v => some (v,h)
def loadN (n:Nat) (p:V):M V:=fun h => (placeV p h).bind fun x => if x.2 + n ≤ x.1.length then some (.agg ((x.1.drop x.2).take n),h) else none
def loadT (P:Program) (t:TypeId) (p:V):M V :=
 match isAgg P t with
 | some true => loadN (P.cellsOf t) p
 | some false => load1 p
 | none => M.fail
def putRow (row:List V) (o:Nat) (cs:List V):Option (List V) :=
 if o + cs.length ≤ row.length then some (row.take o ++ cs ++ row.drop (o + cs.length)) else none
def storeN (n : Nat) (p v : V) : M V := fun h =>
  match p with
  | .ptr l i o => if h.floor ≤ l then
      (v.cells?).bind fun cs => if cs.length = n then (h.blk l).bind fun b => (b.rows[i]?).bind fun r => (putRow r o cs).bind fun r' =>
        some (.undef,h.set l ⟨b.sz,b.rows.set i r'⟩) else none
    else none
  | _ => none
def newV (v:V):M V:=fun h => (v.cells?).bind fun cs => some (.ptr h.next 0 0,h.add ⟨cs.length,[cs]⟩)
def padd (n:Nat):V → Option V
 | .ptr l i o => some (.ptr l i (o + n))
 | .iptr r o => some (.iptr r (o + n))
 | _ => none
def fill (cs:List V):List (Nat × Nat × V) → Option (List V)
 | [] => some cs
 | (off,size,v) :: rest => (v.cells?).bind fun vs =>
   if vs.length = size then (putRow cs off vs).bind fun cs' => fill cs' rest else none
def buildV (zero:List V) (parts:List (Nat × Nat × V)):Option V:=(fill zero parts).bind fun l => some (.agg l)
def fillRows (sz:Nat) (rows:List (List V)):List (Nat × V) → Option (List (List V))
 | [] => some rows
 | (i,v) :: rest => (v.cells?).bind fun vs => if vs.length = sz ∧ i < rows.length then fillRows sz (rows.set i vs) rest else none
def newRows (sz:Nat) (rows:List (List V)) (ex:Bool):M V:=fun h =>
 some (.ref h.next sz 0 rows.length rows.length ex,h.add ⟨sz,rows⟩)
def sliceV (sz len:Nat) (zero:List V) (parts:List (Nat × V)):M V:=fun h =>
 match len with
 | 0 => (match parts with | [] => some (.emp,h) | _ => none)
 | _ => (fillRows sz (List.replicate len zero) parts).bind fun rows => newRows sz rows true h
def nilCheckV:V → Option V
 | .ptr l i o => some (.ptr l i o)
 | .iptr r o => some (.iptr r o)
 | .ext k => some (.ext k)
 | .iface t v => some (.iface t v)
 | .fn f c => some (.fn f c)
 | .bfn f c => some (.bfn f c)
 | _ => none
def idxV (sz:Nat) (x i:V):Option V :=
 match x,i with
 | .ref l z s n _ _,.int _ k => if 0 ≤ k ∧ k < (n:Int) ∧ z = sz then some (.ptr l (s + k.toNat) 0) else none
 | .imm z rows,.int _ k => if 0 ≤ k ∧ z = sz then (rows[k.toNat]?).bind fun r => some (.iptr r 0) else none
 | .sub l i o n _,.int _ k => if 0 ≤ k ∧ k < (n:Int) ∧ sz = 1 then some (.ptr l i (o + k.toNat)) else none
 | _,_ => none
def aidxV (len sz:Nat) (x i:V):Option V :=
 match i with
 | .int _ k => if 0 ≤ k ∧ k < (len:Int) then padd (k.toNat * sz) x else none
 | _ => none
inductive Sc where
 | bool | int | str
inductive EqT where
 | sc (k:Sc) | ptr | slice | iface | func | agg (ks:List Sc)
def plainFs (P:Program) (rec:TypeId → Option (List Sc)):List Field → Nat → Nat → Option (List Sc)
 | [],off,tot => if off = tot then some [] else none
 | f :: fs, off, tot => if f.name = "_" ∨ f.offset ≠ off then none else (rec f.type).bind fun a => (plainFs P rec fs (off + P.cellsOf f.type) tot).bind fun b => some (a ++ b)
def plainTy (P : Program) : Nat → TypeId → Option (List Sc)
  | 0,_ => none
  | n + 1, t => match P.underlying t with
    | some .bool => if P.cellsOf t = 1 then some [.bool] else none
    | some (.int _) => if P.cellsOf t = 1 then some [.int] else none
    | some .string => if P.cellsOf t = 1 then some [.str] else none
    | some (.struct fs) => if P.stoodInHeld t = true then none else plainFs P (plainTy P n) fs.toList 0 (P.cellsOf t)
    | some (.array len e) => (plainTy P n e).bind fun a => if P.cellsOf t = len * P.cellsOf e ∧ a.length = P.cellsOf e then some (List.replicate len a).flatten else none
    | _ => none
def eqTy (P:Program) (t:TypeId):Option EqT :=
 match P.underlying t with
 | some .bool => some (.sc .bool)
 | some (.int _) => some (.sc .int)
 | some .string => some (.sc .str)
 | some (.pointer _) => some .ptr
 | some (.slice _) => some .slice
 | some (.interface _) => some .iface
 | some (.func _ _ _) => some .func
 | some (.struct _) | some (.array _ _) => if P.eqGuardType P.depth t = true then none else (plainTy P 8 t).bind fun ks => some (.agg ks)
 | _ => none
def eqC:Sc → V → V → Option Bool
 | .int,.int k a,.int k' b => if k = k' then some (a == b) else none
 | .bool,.bool a,.bool b => some (a == b)
 | .str,.str a,.str b => some (a.toList == b.toList)
 | _,_,_ => none
def eqCs:List Sc → List V → List V → Option Bool
 | [],[],[] => some true
 | k :: ks,a :: as,b :: bs => (eqC k a b).bind fun x => (eqCs ks as bs).bind fun y => some (x && y)
 | _,_,_ => none
def V.isNilS:V → Option Bool
 | .nils => some true
 | .emp | .imm _ _ | .ref _ _ _ _ _ _ => some false
 | _ => none
def eqV (T : EqT) (c : Bool) (x y : V) : Option Bool :=
  match T with
  | .sc k => eqC k x y
  | .agg ks => match x,y with | .agg a,.agg b => eqCs ks a b | _,_ => none
  | .ptr => match x, y with
    | .nilp,.nilp => some true
    | .nilp,.ptr _ _ _ | .nilp,.iptr _ _ | .nilp,.ext _ | .ptr _ _ _,.nilp | .iptr _ _,.nilp | .ext _,.nilp => some false
    | _,_ => none
  | .slice => match x, y with
    | .nils,y => y.isNilS
    | x,.nils => x.isNilS
    | _,_ => none
  | .iface => match x, y with
    | .nili,.nili => if c then some true else none
    | .nili,.iface _ _ | .iface _ _,.nili => some false
    | _,_ => none
  | .func => match x, y with
    | .nilf,.nilf => some true
    | .nilf,.fn _ _ | .fn _ _,.nilf => some false
    | _,_ => none
def arithV (op : BinOp) (x y : V) : Option V :=
  match x,y with
  | .int k a, .int k' b =>
    match op with
    | .shl => if b < 0 then none else some (.int k (k.wrap (a * 2 ^ (min b.toNat k.bits))))
    | .shr => if b < 0 then none else some (.int k (a.fdiv (2 ^ (min b.toNat k.bits))))
    | .add => if k = k' then some (.int k (k.wrap (a + b))) else none
    | .sub => if k = k' then some (.int k (k.wrap (a - b))) else none
    | .mul => if k = k' then some (.int k (k.wrap (a * b))) else none
    | .quo => if k = k' ∧ b ≠ 0 then some (.int k (k.wrap (a.tdiv b))) else none
    | .rem => if k = k' ∧ b ≠ 0 then some (.int k (a.tmod b)) else none
    | .and => if k = k' then some (.int k (k.wrap (BitVec.ofInt k.bits a &&& BitVec.ofInt k.bits b).toNat)) else none
    | .or => if k = k' then some (.int k (k.wrap (BitVec.ofInt k.bits a ||| BitVec.ofInt k.bits b).toNat)) else none
    | .xor => if k = k' then some (.int k (k.wrap (BitVec.ofInt k.bits a ^^^ BitVec.ofInt k.bits b).toNat)) else none
    | .lss => if k = k' then some (.bool (a < b)) else none
    | .leq => if k = k' then some (.bool (a ≤ b)) else none
    | .gtr => if k = k' then some (.bool (a > b)) else none
    | .geq => if k = k' then some (.bool (a ≥ b)) else none
    | _ => none
  | .str a, .str b =>
    match op with
    | .add => if ((a.size + b.size:Nat):Int) > IntKind.i64.max then none else some (.str (a ++ b))
    | .lss => some (.bool (Op.bytesLess a.toList b.toList))
    | _ => none
  | _,_ => none
def binV (P : Program) (op : BinOp) (t : TypeId) (c : Bool) (x y : V) : Option V :=
  match op with
  | .eql => match eqTy P t with
    | some T => (eqV T c x y).bind fun b => some (.bool b)
    | none => none
  | .neq => match eqTy P t with
    | some T => (eqV T c x y).bind fun b => some (.bool !b)
    | none => none
  | op => arithV op x y
def unV (op:UnOp) (x:V):Option V :=
 match op,x with
 | .not,.bool b => some (.bool !b)
 | .neg,.int k n => some (.int k (k.wrap (0 - n)))
 | .xor,.int k n => some (.int k (k.wrap (BitVec.ofInt k.bits (if k.signed then -1 else k.max) ^^^ BitVec.ofInt k.bits n).toNat))
 | _,_ => none
def convI (k:IntKind) (x:V):Option V:=match x with | .int _ n => some (.int k (k.wrap n)) | _ => none
def convS (x:V):Option V:=match x with | .str s => some (.str s) | _ => none
def convV (P:Program) (src dst:TypeId) (x:V):Option V :=
 match P.underlying src,P.underlying dst with
 | some _,some (.int k) => convI k x
 | some .string,some .string => convS x
 | _,_ => none
def ifaceV (t:TypeId) (x:V):Option V:=if x.isCell then some (.iface t x) else match x with | .agg l => some (.iface t (.agg l)) | _ => none
def natOf (x:V):Option Nat:=match x with | .int _ k => if 0 ≤ k then some k.toNat else none | _ => none
def optNat (x:Option V) (d:Nat):Option Nat:=match x with | some v => natOf v | none => some d
def slV (sz:Nat) (x:V) (lo hi mx:Option V):Option V :=
 match x with
 | .ref l z s n c ex => (optNat lo 0).bind fun a => (optNat hi n).bind fun b =>
   if z = sz ∧ a ≤ b ∧ b ≤ n then
    match mx with
    | none => some (.ref l z (s + a) (b - a) (c - a) ex)
    | some m => (natOf m).bind fun m => if b ≤ m ∧ m ≤ c then some (if m = a then .emp else .ref l z (s + a) (b - a) (m - a) true) else none
   else none
 | .imm z rows => (optNat lo 0).bind fun a => (optNat hi rows.length).bind fun b =>
   if z = sz ∧ a ≤ b ∧ b ≤ rows.length then
    match mx with
    | none => some (.imm z ((rows.drop a).take (b - a)))
    | some m => (natOf m).bind fun m => if b ≤ m ∧ m ≤ rows.length then some (if m = a then .emp else .imm z ((rows.drop a).take (b - a))) else none
   else none
 | .sub l i o n c => (optNat lo 0).bind fun a => (optNat hi n).bind fun b =>
   if sz = 1 ∧ a ≤ b ∧ b ≤ n ∧ n ≤ c ∧ mx = none then some (if c = a then .emp else .sub l i (o + a) (b - a) (c - a)) else none
 | .nils => (optNat lo 0).bind fun a => (optNat hi 0).bind fun b => (optNat mx 0).bind fun m => if a = 0 ∧ b = 0 ∧ m = 0 then some .nils else none
 | .emp => (optNat lo 0).bind fun a => (optNat hi 0).bind fun b => (optNat mx 0).bind fun m => if a = 0 ∧ b = 0 ∧ m = 0 then some .emp else none
 | _ => none
def slS (x:V) (lo hi:Option V):Option V :=
 match x with
 | .str s => (optNat lo 0).bind fun a => (optNat hi s.size).bind fun b => if a ≤ b ∧ b ≤ s.size then some (.str (s.extract a b)) else none
 | _ => none
def extractV (x:V) (i:Nat):Option V:=match x with | .tuple l => l[i]? | _ => none
def pickV (c a b:V):Option V:=match c with | .bool t => some (if t then a else b) | _ => none
def lenS (x:V):Option V:=match x with | .str s => some (.int .i64 s.size) | _ => none
def aslV (len:Nat) (x:V) (lo hi:Option V):Option V :=
 (optNat lo 0).bind fun a => (optNat hi len).bind fun b =>
  if a ≤ b ∧ b ≤ len then
   match x with
   | .ptr l i o => some (if len = a then .emp else .sub l i (o + a) (b - a) (len - a))
   | .iptr r o => if o + len ≤ r.length then some (if len = a then .emp else .imm 1 (((r.drop (o + a)).take (b - a)).map fun c => [c])) else none
   | _ => none
  else none
def lenV (x:V):Option V :=
 match x with
 | .nils | .emp => some (.int .i64 0)
 | .imm _ rows => some (.int .i64 rows.length)
 | .ref _ _ _ n _ _ => some (.int .i64 n)
 | .sub _ _ _ n _ => some (.int .i64 n)
 | _ => none
def indexS (x i:V):Option V :=
 match x,i with
 | .str s,.int _ k => if 0 ≤ k then (s[k.toNat]?).bind fun b => some (.int .u8 b.toNat) else none
 | _,_ => none
def indexA (len sz:Nat) (ag:Bool) (x i:V):Option V :=
 match x,i with
 | .agg cs,.int _ k => if 0 ≤ k ∧ k < (len:Int) then
   (if ag then (if k.toNat * sz + sz ≤ cs.length then some (.agg ((cs.drop (k.toNat * sz)).take sz)) else none) else cs[k.toNat * sz]?) else none
 | _,_ => none
def fieldV (off n:Nat) (ag:Bool) (x:V):Option V :=
 match x with
 | .agg cs => if ag then (if off + n ≤ cs.length then some (.agg ((cs.drop off).take n)) else none) else cs[off]?
 | _ => none
def itemsV (sz:Nat) (x:V):Heap → Option (List (List V)):=fun h =>
 match x with
 | .nils | .emp => some []
 | .imm z rows => if z = sz then some rows else none
 | .ref l z s n _ _ => if z = sz then (h.blk l).bind fun b => if s + n ≤ b.rows.length then some ((b.rows.drop s).take n) else none else none
 | .str s => if sz = 1 then some (s.data.toList.map fun b => [.int .u8 b.toNat]) else none
 | .sub l i o n _ => if sz = 1 then (h.blk l).bind fun b => (b.rows[i]?).bind fun r => if o + n ≤ r.length then some (((r.drop o).take n).map fun c => [c]) else none else none
 | _ => none
def room:Nat:=140737488355328
def byteOf:List V → Option UInt8
 | [.int .u8 n] => some (UInt8.ofNat n.toNat)
 | _ => none
def bytesOf (rows:List (List V)):Option ByteArray:=(rows.mapM byteOf).map fun l => ⟨l.toArray⟩
def bytesRows (s:ByteArray):List (List V):=s.data.toList.map fun b => [.int .u8 b.toNat]
def readBytes (x:V):M V:=fun h => match x with
 | .str _ => none
 | x => (itemsV 1 x h).bind fun rows => (bytesOf rows).bind fun b => some (.str b,h)
def isByte (P:Program) (t:TypeId):Bool:=match P.underlying t with | some (.int .u8) => true | _ => false
def appR (sz bytes : Nat) (x : V) (items : List (List V)) : M V := fun h =>
  match x with
  | .nils => match items with
    | [] => some (.nils,h)
    | items => if items.length * bytes ≤ room then newRows sz items false h else none
  | .emp => match items with
    | [] => some (.emp,h)
    | items => if items.length * bytes ≤ room then newRows sz items false h else none
  | .imm z rows => if items = [] then some (.imm z rows,h) else none
  | .ref l z s n c ex => match items with
    | [] => some (.ref l z s n c ex,h)
    | items => if z = sz then (h.blk l).bind fun b => if s + n ≤ b.rows.length then
        (if n + items.length ≤ c then
          (if h.floor ≤ l then some (.ref l z s (n + items.length) c ex,h.set l ⟨b.sz,b.rows.take (s + n) ++ items ++ b.rows.drop (s + n + items.length)⟩) else none)
        else if (n + items.length) * bytes ≤ room then
          (if ex then newRows sz ((b.rows.drop s).take n ++ items) false h
          else if h.floor ≤ l then newRows sz ((b.rows.drop s).take n ++ items) false (h.kill l) else none)
        else none) else none else none
  | _ => none
def appV (sz bytes:Nat) (x y:V):M V:=fun h => (itemsV sz y h).bind fun items => appR sz bytes x items h
def copyV (sz:Nat) (x y:V):M V:=fun h =>
 (itemsV sz y h).bind fun items =>
  match x with
  | .nils | .emp => some (.int .i64 0,h)
  | .ref l z s n _ _ => if z = sz ∧ h.floor ≤ l then (h.blk l).bind fun b => if s + n ≤ b.rows.length then
    some (.int .i64 ((min items.length n:Nat):Int),h.set l ⟨b.sz,b.rows.take s ++ items.take (min items.length n) ++ b.rows.drop (s + min items.length n)⟩) else none else none
  | .sub l i o n _ => if sz = 1 ∧ h.floor ≤ l then (h.blk l).bind fun b => (b.rows[i]?).bind fun r => if o + n ≤ r.length then
    (putRow r o (items.take (min items.length n)).flatten).bind fun r' => some (.int .i64 ((min items.length n:Nat):Int),h.set l ⟨b.sz,b.rows.set i r'⟩) else none else none
  | _ => none
def clearV (sz:Nat) (zero:List V) (x:V):M V:=fun h =>
 match x with
 | .nils | .emp => some (.tuple [],h)
 | .ref l z s n _ _ => if z = sz ∧ h.floor ≤ l then (h.blk l).bind fun b => if s + n ≤ b.rows.length then
   some (.tuple [],h.set l ⟨b.sz,b.rows.take s ++ List.replicate n zero ++ b.rows.drop (s + n)⟩) else none else none
 | _ => none
def newCap (sz n:Nat) (rows:List (List V)):M V:=fun h =>
 some (.ref h.next sz 0 n rows.length true,h.add ⟨sz,rows⟩)
def makeV (sz bytes:Nat) (zero:List V) (n c:V):M V:=fun h =>
 (natOf n).bind fun n => (natOf c).bind fun c => if n ≤ c ∧ c * bytes ≤ room ∧ c ≤ room then
  (match c with | 0 => some (.emp,h) | c => newCap sz n (List.replicate c zero) h) else none
def isIface (P:Program) (t:TypeId):Bool:=match P.underlying t with | some (.interface _) => true | none => true | _ => false
def isConst:Operand → Bool | .const _ => true | _ => false
def elemOf (P:Program) (t:TypeId):Option TypeId:=match P.underlying t with | some (.slice e) => some e | _ => none
def memConv (P:Program):Op → Bool
 | .convert s d _ => match P.underlying s,P.underlying d with | some (.slice _),some .string => true | _,_ => false
 | _ => false
def convM (P:Program) (s d:TypeId) (x:V):M V :=
 match P.underlying s,P.underlying d with
 | some (.slice el),some .string => if isByte P el then readBytes x else M.fail
 | some .string,some (.slice el) => if isByte P el then (match x with | .str b => newRows 1 (bytesRows b) false | _ => M.fail) else M.fail
 | _,_ => M.lift (convV P s d x)
def findM (q:IntKind) (a:Int):List (List V) → Nat → Option (Option (Nat × V))
 | [],_ => some none
 | [.int q' b,v] :: r,i => if q = q' then (if a = b then some (some (i,v)) else findM q a r (i + 1)) else none
 | _ :: _,_ => none
def intKey (P:Program) (k:TypeId):Bool:=match P.underlying k with | some (.int _) => true | _ => false
def zeroS (P:Program) (t:TypeId):Option V:=((P.info? t).bind (·.zero)).map cstV
def newM:M V:=fun h => some (.mp h.next,h.add ⟨0,[]⟩)
def getMz (z:V) (ok:Bool) (x i:V):M V:=fun h =>
 match x,i with
 | .mp l,.int q a => (h.blk l).bind fun b => (findM q a b.rows 0).bind fun r =>
   match r with
   | some (_,v) => some (if ok then .tuple [v,.bool true] else v,h)
   | none => some (if ok then .tuple [z,.bool false] else z,h)
 | _,_ => none
def getM (P:Program) (t:TypeId) (ok:Bool) (x i:V):M V :=
 match P.underlying t with
 | some (.map k e) => if intKey P k = true then (match zeroS P e with | some z => getMz z ok x i | none => M.fail) else M.fail
 | _ => M.fail
def setMz (x i v : V) : M V := fun h =>
  match x,i with
  | .mp l, .int q a => if h.floor ≤ l then (h.blk l).bind fun b => (findM q a b.rows 0).bind fun r =>
      match r with
      | some (j,_) => some (.undef,h.set l ⟨b.sz,b.rows.set j [.int q a,v]⟩)
      | none => some (.undef,h.set l ⟨b.sz,b.rows ++ [[.int q a,v]]⟩)
    else none
  | _,_ => none
def setM (P:Program) (t:TypeId) (x i v:V):M V :=
 match P.underlying t with
 | some (.map k _) => if intKey P k = true then setMz x i v else M.fail
 | _ => M.fail
def opV (C : Cfg) (e : Operand → V) : Op → M V
  | .makeMap _ none => newM
  | .lookup t x i ok => getM C.P t ok (e x) (e i)
  | .mapUpdate t m k x => setM C.P t (e m) (e k) (e x)
  | .move x | .assign x => M.ret (e x)
  | .pick c a b => M.lift (pickV (e c) (e a) (e b))
  | .alloc t => match zeroC C.P t with
    | some z => newV (.agg z)
    | none => M.fail
  | .box _ x => newV (e x)
  | .build t parts => match C.P.underlying t, zeroC C.P t with
    | some (.struct fs), some z => if (fs.toList.all fun f => (C.P.info? f.type).isSome) = false then M.fail else match parts.toList.mapM fun p => (fs[p.1]?).map fun f => (f.offset, C.P.cellsOf f.type, e p.2) with
      | some ps => M.lift (buildV z ps)
      | none => M.fail
    | some (.array _ el),some z => if (C.P.info? el).isSome = false then M.fail else M.lift (buildV z (parts.toList.map fun p => (p.1 * C.P.cellsOf el,C.P.cellsOf el,e p.2)))
    | _,_ => M.fail
  | .buildSlice t len parts => match elemOf C.P t with
    | some el => match zeroC C.P el with
      | some z => if 0 < C.P.cellsOf el ∧ z.length = C.P.cellsOf el ∧ len * C.P.cellsOf el ≤ 16777216 then sliceV (C.P.cellsOf el) len z (parts.toList.map fun p => (p.1,e p.2)) else M.fail
      | none => M.fail
    | none => M.fail
  | .load t p => loadT C.P t (e p)
  | .store t p x => if 0 < C.P.cellsOf t then storeN (C.P.cellsOf t) (e p) (e x) else M.fail
  | .nilCheck x => M.lift (nilCheckV (e x))
  | .binOp op t x y _ => M.lift (binV C.P op t (isConst x || isConst y) (e x) (e y))
  | .unOp op _ x => M.lift (unV op (e x))
  | .convert s d x => convM C.P s d (e x)
  | .makeInterface t x => if isIface C.P t then M.fail else M.lift (ifaceV t (e x))
  | .makeFunc (.func f) first caps => if first.size = 0 then M.ret (.fn f (caps.toList.map e)) else if caps.size = 0 then M.ret (.bfn f (first.toList.map e)) else M.fail
  | .makeSlice t n c => match elemOf C.P t with
    | some el => match zeroC C.P el with
      | some z => if 0 < C.P.cellsOf el ∧ z.length = C.P.cellsOf el then makeV (C.P.cellsOf el) (C.P.bytesOf el) z (e n) (e c) else M.fail
      | none => M.fail
    | none => M.fail
  | .slice t x lo hi mx => match C.P.underlying t with
    | some .string => if mx.isSome then M.fail else M.lift (slS (e x) (lo.map e) (hi.map e))
    | some (.slice el) => if 0 < C.P.cellsOf el ∧ (mx.isSome && !hi.isSome) = false then M.lift (slV (C.P.cellsOf el) (e x) (lo.map e) (hi.map e) (mx.map e)) else M.fail
    | some (.array n el) => if C.P.cellsOf el = 1 ∧ mx.isSome = false then M.lift (aslV n (e x) (lo.map e) (hi.map e)) else M.fail
    | _ => M.fail
  | .fieldAddr s x f => match C.P.underlying s with
    | some (.struct fs) => match fs[f]? with
      | some fd => if C.P.cellsOf fd.type = 0 then M.fail else M.lift (padd fd.offset (e x))
      | none => M.fail
    | _ => M.fail
  | .field t x f => match C.P.underlying t with
    | some (.struct fs) => match fs[f]? with
      | some fd => match isAgg C.P fd.type with
        | some ag => M.lift (fieldV fd.offset (C.P.cellsOf fd.type) ag (e x))
        | none => M.fail
      | none => M.fail
    | _ => M.fail
  | .indexAddr t x i => match C.P.underlying t with
    | some (.slice el) => if 0 < C.P.cellsOf el then M.lift (idxV (C.P.cellsOf el) (e x) (e i)) else M.fail
    | some (.array n el) => if 0 < C.P.cellsOf el then M.lift (aidxV n (C.P.cellsOf el) (e x) (e i)) else M.fail
    | _ => M.fail
  | .index t x i => match C.P.underlying t with
    | some .string => M.lift (indexS (e x) (e i))
    | some (.array n el) => match isAgg C.P el with
      | some ag => M.lift (indexA n (C.P.cellsOf el) ag (e x) (e i))
      | none => M.fail
    | _ => M.fail
  | .extract x i => M.lift (extractV (e x) i)
  | _ => M.fail
def maxV (x y:V):Option V:=match x,y with | .int k a,.int _ b => some (.int k (if b > a then b else a)) | _,_ => none
def minV (x y:V):Option V:=match x,y with | .int k a,.int _ b => some (.int k (if b < a then b else a)) | _,_ => none
def builtinV (C : Cfg) (b : Builtin) (ats : Array TypeId) (args : List V) : M V :=
  match b,args with
  | .len, [x] => match (ats[0]?).bind C.P.underlying with
    | some .string => M.lift (lenS x)
    | some (.slice _) => M.lift (lenV x)
    | some (.array n _) => M.ret (.int .i64 n)
    | _ => M.fail
  | .append, [x, y] => match (ats[0]?).bind (elemOf C.P), (ats[1]?).bind C.P.underlying with
    | some el,some (.slice _) | some el,some .string => if 0 < C.P.cellsOf el ∧ (zeroC C.P el).map List.length = some (C.P.cellsOf el) ∧ 0 < C.P.bytesOf el then appV (C.P.cellsOf el) (C.P.bytesOf el) x y else M.fail
    | _,_ => M.fail
  | .copy, [x, y] => match (ats[0]?).bind (elemOf C.P) with
    | some el => if 0 < C.P.cellsOf el then copyV (C.P.cellsOf el) x y else M.fail
    | none => M.fail
  | .clear, [x] => match (ats[0]?).bind (elemOf C.P) with
    | some el => match zeroC C.P el with
      | some z => if 0 < C.P.cellsOf el ∧ z.length = C.P.cellsOf el then clearV (C.P.cellsOf el) z x else M.fail
      | none => M.fail
    | none => M.fail
  | .max,[x,y] => M.lift (maxV x y)
  | .min,[x,y] => M.lift (minV x y)
  | _,_ => M.fail

def V.flat:V → Bool
 | .bool _ | .int _ _ | .str _ | .nilp | .nils | .emp | .nili | .nilf | .ext _ => true
 | .iface _ (.ext _) => true
 | _ => false
def V.closed:V → Bool
 | .imm _ _ | .iptr _ _ => true
 | .iface _ (.iptr _ _) => true
 | v => v.flat
def V.closedV:V → Bool
 | .agg l => l.all V.closed
 | v => v.closed
def flatRows (rows:List (List V)):Bool:=rows.all fun r => r.all V.flat
def mapRows (f:V → Option V) (rows:List (List V)):Option (List (List V)):=rows.mapM fun r => r.mapM f
def thawD : Nat → Bool → Heap → V → Option V
  | 0,ok,_,v => if v.flat || (ok && v.closed) then some v else none
  | d + 1, ok, h, v => match v with
    | .ref l z s n _ _ => (h.blk l).bind fun b => if s + n ≤ b.rows.length then (mapRows (thawD d ok h) ((b.rows.drop s).take n)).bind fun rows => some (.imm z rows) else none
    | .ptr l i o => (h.blk l).bind fun b => (b.rows[i]?).bind fun r => (r.mapM (thawD d ok h)).bind fun r' => some (.iptr r' o)
    | v => if v.flat || (ok && v.closed) then some v else none
def thaw (ok:Bool) (h:Heap) (v:V):Option V :=
 match v with
 | .ref l z s n _ _ => (h.blk l).bind fun b => if s + n ≤ b.rows.length ∧ flatRows ((b.rows.drop s).take n) then some (.imm z ((b.rows.drop s).take n)) else thawD 4 ok h v
 | .ptr l i o => (h.blk l).bind fun b => (b.rows[i]?).bind fun r => if r.all V.flat then some (.iptr r o) else thawD 4 ok h v
 | .iface t (.ptr l i o) => (h.blk l).bind fun b => (b.rows[i]?).bind fun r => if r.all V.flat then some (.iface t (.iptr r o)) else none
 | v => if v.flat || (ok && v.closed) then some v else none
def thaw2 (ok:Bool) (h:Heap) (v:V):Option V :=
 match v with
 | .agg l => (l.mapM (thaw ok h)).bind fun l' => some (.agg l')
 | v => thaw ok h v
def thawV (ok:Bool) (h:Heap) (v:V):Option V :=
 match v with
 | .agg l => (l.mapM (thaw ok h)).bind fun l' => some (.agg l')
 | .tuple l => (l.mapM (thaw2 ok h)).bind fun l' => some (.tuple l')
 | v => thaw ok h v
def givesD (g:V → List Nat → Option (V × List Nat)):List V → List Nat → Option (List V × List Nat)
 | [],ls => some ([],ls)
 | v :: vs,ls => (g v ls).bind fun x => (givesD g vs x.2).bind fun y => some (x.1 :: y.1,y.2)
def givesRows (g:V → List Nat → Option (V × List Nat)):List (List V) → List Nat → Option (List (List V) × List Nat)
 | [],ls => some ([],ls)
 | r :: rs,ls => (givesD g r ls).bind fun x => (givesRows g rs x.2).bind fun y => some (x.1 :: y.1,y.2)
def giveD : Nat → Heap → V → List Nat → Option (V × List Nat)
  | 0,_,v,ls => if v.flat then some (v,ls) else none
  | d + 1, h, v, ls => match v with
    | .ref l z s n _ _ => (h.blk l).bind fun b => if s + n ≤ b.rows.length then
        (givesRows (giveD d h) ((b.rows.drop s).take n) ls).bind fun x => if l ∉ x.2 then some (.deep z x.1,l :: x.2) else none else none
    | v => if v.flat then some (v,ls) else none
def give (h:Heap) (v:V) (ls:List Nat):Option (V × List Nat) :=
 match v with
 | .ref l z s n _ _ => (h.blk l).bind fun b => if s + n ≤ b.rows.length ∧ flatRows ((b.rows.drop s).take n) ∧ l ∉ ls then some (.own z ((b.rows.drop s).take n),l :: ls) else giveD 4 h v ls
 | v => if v.flat then some (v,ls) else none
def gives (h:Heap):List V → List Nat → Option (List V × List Nat)
 | [],ls => some ([],ls)
 | v :: vs,ls => (give h v ls).bind fun x => (gives h vs x.2).bind fun y => some (x.1 :: y.1,y.2)
def give2 (h:Heap) (v:V) (ls:List Nat):Option (V × List Nat) :=
 match v with
 | .agg l => (gives h l ls).bind fun x => some (.agg x.1,x.2)
 | v => give h v ls
def gives2 (h:Heap):List V → List Nat → Option (List V × List Nat)
 | [],ls => some ([],ls)
 | v :: vs,ls => (give2 h v ls).bind fun x => (gives2 h vs x.2).bind fun y => some (x.1 :: y.1,y.2)
def giveV (h:Heap) (v:V):Option V :=
 match v with
 | .tuple l => (gives2 h l []).bind fun x => some (.tuple x.1)
 | v => (give2 h v []).bind fun x => some x.1
def takesD (t:V → M V):List V → M (List V)
 | [] => M.ret []
 | v :: vs => (t v).bind fun v' => (takesD t vs).bind fun vs' => M.ret (v' :: vs')
def takesRows (t:V → M V):List (List V) → M (List (List V))
 | [] => M.ret []
 | r :: rs => (takesD t r).bind fun r' => (takesRows t rs).bind fun rs' => M.ret (r' :: rs')
def takeD : Nat → V → M V
  | 0,v => M.ret v
  | d + 1, v => match v with
    | .deep z rows => (takesRows (takeD d) rows).bind fun rows' => newRows z rows' false
    | v => M.ret v
def take1 (v:V):M V:=fun h => match v with
 | .own z rows => newRows z rows false h
 | .deep z rows => takeD 4 (.deep z rows) h
 | v => some (v,h)
def takes:List V → M (List V)
 | [] => M.ret []
 | v :: vs => (take1 v).bind fun v' => (takes vs).bind fun vs' => M.ret (v' :: vs')
def take2 (v:V):M V:=match v with
 | .agg l => (takes l).bind fun l' => M.ret (.agg l')
 | v => take1 v
def takes2:List V → M (List V)
 | [] => M.ret []
 | v :: vs => (take2 v).bind fun v' => (takes2 vs).bind fun vs' => M.ret (v' :: vs')
def takeV (v:V):M V:=match v with
 | .tuple l => (takes2 l).bind fun l' => M.ret (.tuple l')
 | v => take2 v
def callP (own:Bool) (call:List V → M V) (args:List V):M V:=fun h =>
 (args.mapM (thawV true h)).bind fun as => (call as Heap.empty).bind fun r =>
  if own then (giveV r.2 r.1).bind fun v => takeV v h
  else (thawV (args.all V.closedV) r.2 r.1).bind fun v => some (v,h)
def callV (C:Cfg) (call:CV) (f:FuncId) (args:List V):M V :=
 match C.kind f with
 | .inl => call f args
 | .pure => callP false (call f) args
 | .own => callP true (call f) args
 | .ext => M.lift (C.X f args)
 | .exts => callP false (fun as => M.lift (C.X f as)) args
 | .extm => C.Y f args
def callFn (C:Cfg) (call:CV) (f:V) (args:List V):M V :=
 match f with
 | .fn f caps => callV C call f (args ++ caps)
 | .bfn f first => callV C call f (first ++ args)
 | _ => M.fail
def stepV (C : Cfg) (call : CV) (e : Operand → V) : Op → M V
  | .call c => match c.callee with
    | .builtin b => builtinV C b c.argTypes (c.args.toList.map e)
    | .value f => callFn C call (e f) (c.args.toList.map e)
    | .invoke _ _ => M.fail
  | op => opV C e op

inductive Ex where
 | normal
 | exit (id:Nat)
 | ret
def put (env:Env) (d:Option Tmp) (v:V):Env :=
 match d with
 | some d => fun t => if t = d then v else env t
 | none => env
def guardV (v:V) (want:Bool) (m:M V):M V :=
 match v with
 | .bool b => if b = want then m else M.ret (.tuple [])
 | .tuple _ => M.ret (.tuple [])
 | _ => M.fail
abbrev R:=Ex × List V
def guarded (C : Cfg) (call : CV) (ops : Array Oper) (env : Env) (o : Oper) : M V :=
  match o.guard with
  | none => stepV C call (ev C env) o.op
  | some (j, want) => match (ops[j]?).bind (·.dst) with
    | some d => guardV (env d) want (stepV C call (ev C env) o.op)
    | none => M.fail
noncomputable def runOps (C:Cfg) (call:CV) (ops:Array Oper) (l:List Oper):Env → (Env → M R) → M R :=
 List.rec (motive:=fun _ => Env → (Env → M R) → M R) (fun env K => K env)
  (fun o _ ih env K => (guarded C call ops env o).bind fun v => ih (put env o.dst v) K) l
def condV {α:Type} (v:V) (a b:M α):M α :=
 match v with
 | .bool t => if t then a else b
 | _ => M.fail
def iter (F : List V → M R) : Nat → List V → M R
  | 0 => fun _ => M.fail
  | n + 1 => fun s => (F s).bind fun r => match r.1 with
    | .normal => iter F n r.2
    | _ => M.ret r
open Classical in
noncomputable def loopV (F:List V → M R) (s:List V):M R:=fun h =>
 if hx:∃ n r,iter F n s h = some r then some hx.choose_spec.choose else none
def dsts (ops:Array Oper):List Nat:=ops.toList.filterMap (·.dst)
def allDsts:Code → List Nat
 | .region _ ops _ => dsts ops
 | .seq a b => allDsts a ++ allDsts b
 | .cond _ a b => allDsts a ++ allDsts b
 | .block _ c => allDsts c
 | .loop c => allDsts c
 | .scope c => allDsts c
 | .rangeFunc _ _ a b => allDsts a ++ allDsts b
 | _ => []
def tmpsOf (xs:Array Operand):List Nat:=xs.toList.filterMap fun | .tmp t => some t | _ => none
def readsOp (ops:Array Oper) (o:Oper):List Nat :=
 tmpsOf o.op.operands ++ (match o.guard with | some (j,_) => ((ops[j]?).bind (·.dst)).toList | none => [])
def readsC:Operand → List Nat
 | .tmp t => [t]
 | _ => []
def reads:Code → List Nat
 | .region _ ops _ => ops.toList.flatMap (readsOp ops)
 | .seq a b => reads a ++ reads b
 | .cond o a b => readsC o ++ (reads a ++ reads b)
 | .block _ c => reads c
 | .loop c => reads c
 | _ => []
def exposedOps (ops:Array Oper):List Oper → List Nat → List Nat → List Nat × List Nat
 | [],E,W => (E,W)
 | o :: l,E,W => exposedOps ops l (E ++ (readsOp ops o).filter fun t => !W.contains t) (W ++ o.dst.toList)
def exposed:Code → List Nat → List Nat × List Nat
 | .region _ ops _,W => exposedOps ops ops.toList [] W
 | .seq a b,W => ((exposed a W).1 ++ (exposed b (exposed a W).2).1,(exposed b (exposed a W).2).2)
 | .cond o a b,W => ((readsC o).filter (fun t => !W.contains t) ++ ((exposed a W).1 ++ (exposed b W).1),W)
 | .block _ c,W => ((exposed c W).1,W)
 | .loop c,W => ((exposed c W).1,W)
 | _,W => ([],W)
def findIdx (t:Nat):List Nat → Nat → Option Nat
 | [],_ => none
 | d :: ds,k => if t = d then some k else findIdx t ds (k + 1)
def restore (env:Env) (ds as:List Nat) (s:List V):Env:=fun t =>
 match findIdx t ds 0 with
 | some k => s.getD k .undef
 | none => if as.contains t then .undef else env t
def dedup:List Nat → List Nat
 | [] => []
 | d :: ds => if ds.contains d then dedup ds else d :: dedup ds
def carried (T:List Nat) (c:Code):List Nat :=
 (dedup (allDsts c)).filter fun t => (exposed c []).1.contains t || !(T.count t == (reads c).count t)

def befOf (ops:Array Oper):Array Nat :=
 ops.foldl (init:=#[]) fun acc o =>
  acc.push (o.after.foldl (fun s e => if Region.binds .any e then s ||| 2 ^ e.on ||| acc.getD e.on 0 else s) 0)
def isQ:Op → Bool
 | .makeMap .. | .lookup .. | .mapUpdate .. => true
 | .call c => match c.callee with | .builtin .append | .value _ => true | _ => false
 | _ => false
def isS:Op → Bool
 | .store .. => true
 | _ => false
def isL:Op → Bool
 | .load .. => true
 | _ => false
def okOp:Op → Bool
 | .call c => match c.callee with | .builtin .append | .builtin .len | .builtin .max | .builtin .min | .value _ => true | _ => false
 | _ => true
def touches (ops:Array Oper) (o:Oper):List Nat :=
 o.dst.toList ++ tmpsOf o.op.operands ++ (match o.guard with | some (j,_) => ((ops[j]?).bind (·.dst)).toList | none => [])
def clash (ops:Array Oper) (a b:Oper):Bool :=
 (isS a.op && (isS b.op || isQ b.op)) || (isQ a.op && isS b.op) ||
 (match a.dst with | some d => (touches ops b).contains d | none => false) || (match b.dst with | some d => (touches ops a).contains d | none => false)
def bef (ops:Array Oper) (j i:Nat):Bool:=((befOf ops).getD j 0).testBit i
def orderOk (ops:Array Oper):Bool :=
 (ops.toList.zipIdx.all fun x => okOp x.1.op && x.1.after.toList.all fun e => !Region.binds .any e || decide (e.on < x.2)) &&
 (ops.toList.zipIdx.all fun y => ops.toList.zipIdx.all fun x => !(decide (x.2 < y.2)) || !clash ops x.1 y.1 || bef ops y.2 x.2)
def conf (ops:Array Oper) (j:Nat):List Nat :=
 (List.range j).filter fun i => match ops[i]?,ops[j]? with
  | some a,some b => ((isS a.op && isL b.op) || (isL a.op && isS b.op)) && !bef ops j i
  | _,_ => false
def ptrOf (C:Cfg) (env:Env):Op → V
 | .load _ p => ev C env p
 | .store _ p _ => ev C env p
 | _ => .undef
def apartV:V → V → Bool
 | .ptr l _ _,.ptr l' _ _ => decide (l ≠ l')
 | _,_ => true
def ptrAt:List (Nat × Nat × Nat × V) → Nat → V
 | [],_ => .undef
 | b :: bs,i => if b.1 = i then b.2.2.2 else ptrAt bs i
def vis (ops:Array Oper) (n0:Nat) (bs:List (Nat × Nat × Nat × V)) (i l:Nat):Bool :=
 decide (l < n0) || bs.any fun b => decide (b.2.1 ≤ l) && decide (l < b.2.2.1) && bef ops i b.1
def visB (n0:Nat) (bs:List (Nat × Nat × Bool)) (l:Nat):Bool:=decide (l < n0) || bs.any fun b => decide (b.1 ≤ l) && decide (l < b.2.1) && b.2.2
def qrun (v:Nat → Bool) (m:M V):M V:=fun h =>
 (m ⟨fun l => if v l then h.blk l else none,h.next,h.next⟩).bind fun r =>
  some (r.1,⟨fun l => if l < h.next then h.blk l else r.2.blk l,r.2.next,h.floor⟩)
def tOp (C : Cfg) : Op → Bool
  | .call c => match c.callee with
    | .builtin .append => true
    | .value (.func f) => match C.kind f with | .inl => true | _ => false
    | _ => false
  | .mapUpdate .. => true
  | _ => false
def isT (C:Cfg) (ops:Array Oper) (i:Nat):Bool :=
 match ops[i]? with
 | some o => tOp C o.op && (List.range ops.size).all fun k => k == i || (match ops[k]? with | some o' => !(isQ o'.op || isS o'.op || isL o'.op) | none => true) || bef ops i k || bef ops k i
 | none => false
def trun (v:Nat → Bool) (m:M V):M V:=fun h =>
 (m ⟨fun l => if v l then h.blk l else none,h.next,h.floor⟩).bind fun r =>
  some (r.1,⟨fun l => if l < h.next then (if v l && decide (h.floor ≤ l) && (h.blk l).isSome then r.2.blk l else h.blk l) else r.2.blk l,r.2.next,h.floor⟩)
def stepD (C:Cfg) (call:CV) (ops:Array Oper) (n0 i:Nat) (bs:List (Nat × Nat × Nat × V)) (env:Env) (o:Oper):M V :=
 if isT C ops i then trun (vis ops n0 bs i) (guarded C call ops env o)
 else if isQ o.op then qrun (vis ops n0 bs i) (guarded C call ops env o) else if memConv C.P o.op then M.fail else guarded C call ops env o
noncomputable def runDrawn (C:Cfg) (call:CV) (ops:Array Oper) (n0:Nat) (l:List Oper):Nat → List (Nat × Nat × Nat × V) → Env → (Env → M R) → M R :=
 List.rec (motive:=fun _ => Nat → List (Nat × Nat × Nat × V) → Env → (Env → M R) → M R) (fun _ _ env K => K env)
  (fun o _ ih i bs env K => fun h =>
   if (conf ops i).all fun k => apartV (ptrAt bs k) (ptrOf C env o.op) then
    (stepD C call ops n0 i bs env o h).bind fun x => ih (i + 1) ((i,h.next,x.2.next,ptrOf C env o.op) :: bs) (put env o.dst x.1) K x.2
   else none) l
def onNormal (K1:Env → M R) (K:Ex → Env → M R) (e:Ex) (env:Env):M R :=
 match e with
 | .normal => K1 env
 | .exit j => K (.exit j) env
 | .ret => K .ret env
def onBlock (id:Nat) (K:Ex → Env → M R) (e:Ex) (env:Env):M R :=
 match e with
 | .normal => K .normal env
 | .exit j => if j = id then K .normal env else K (.exit j) env
 | .ret => K .ret env
def onLoop (K:Ex → Env → M R) (env:Env) (ds as:List Nat) (r:R):M R :=
 match r.1 with
 | .normal => M.fail
 | .exit j => K (.exit j) (restore env ds as r.2)
 | .ret => K .ret (restore env ds as r.2)
noncomputable def runK (C:Cfg) (call:CV) (T:List Nat) (c:Code):Env → (Ex → Env → M R) → M R :=
 Code.rec (motive:=fun _ => Env → (Ex → Env → M R) → M R)
  (fun env K => K .normal env)
  (fun _ ops draw env K => match draw with
   | false => runOps C call ops ops.toList env (K .normal)
   | true => if orderOk ops then fun h => runDrawn C call ops h.next ops.toList 0 [] env (K .normal) h else M.fail)
  (fun _ _ ra rb env K => ra env (onNormal (fun env' => rb env' K) K))
  (fun c _ _ ra rb env K => condV (ev C env c) (ra env K) (rb env K))
  (fun id _ rc env K => rc env (onBlock id K))
  (fun c rc env K => (loopV (fun s => rc (restore env (carried T c) (allDsts c) s) fun e env' => M.ret (e,(carried T c).map env')) ((carried T c).map env)).bind
   (onLoop K env (carried T c) (allDsts c)))
  (fun _ _ _ _ _ _ _ _ => M.fail)
  (fun id env K => K (.exit id) env)
  (fun _ _ _ _ => M.fail)
  (fun _ env K => K .normal env)
  (fun _ _ _ => M.fail)
  (fun env K => K .ret env)
  (fun _ _ _ => M.fail)
  c
def resV (P:Program) (env:Env):List ResultVar → M (List V)
 | [] => M.ret []
 | .tmp t :: rs => (resV P env rs).bind fun l => M.ret (env t :: l)
 | .cell a t :: rs => (loadT P t (env a)).bind fun v => (resV P env rs).bind fun l => M.ret (v :: l)
def tupV:List V → List V
 | [v] => [v]
 | l => [.tuple l]
def finish (P:Program) (fn:Func) (e:Ex) (env:Env):M R :=
 match e with
 | .exit _ => M.fail
 | _ => (resV P env fn.results.toList).bind fun l => M.ret (.ret,tupV l)
def okFn (fn:Func) (c:Code):Bool:=decide (fn.results.size ≤ 4) && (allDsts c).all fun d => decide (d < fn.ntmps)
def outV (m:M R):M V:=m.bind fun r => M.ret (r.2.getD 0 .undef)
noncomputable def bodyV (C:Cfg) (call:CV) (fn:Func) (c:Code) (args:List V):M V :=
 if okFn fn c then (runK C call (reads c ++ fn.results.toList.map fun | .tmp t => t | .cell a _ => a) c (fun t => args.getD t .undef) (finish C.P fn)).bind fun r => M.ret (r.2.getD 0 .undef) else M.fail
noncomputable def fnV (C : Cfg) (call : CV) (f : FuncId) (args : List V) : M V :=
  match C.P.funcs[f]? with
  | some fn => match fn.body with
    | some c => if fn.name = "runtime.NumGoroutine" then M.fail else bodyV C call fn c args
    | none => M.fail
  | none => M.fail
noncomputable def sem (C:Cfg):Nat → FuncId → List V → M V
 | 0 => fun _ _ => M.fail
 | n + 1 => fun f args => fnV C (sem C n) f args
end Go.Fv
