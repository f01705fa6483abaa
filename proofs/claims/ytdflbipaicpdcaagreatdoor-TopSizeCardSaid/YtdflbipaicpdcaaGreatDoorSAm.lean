/- An abstract machine for Go programs: one order of each drawn region, with a check that the others come to the same. Definitions alone; no condition. No condition. -/
import GoSem.Dispatch
import Derived.OrdersIn
namespace Go.AM
open Go
noncomputable section

/-! ### Binary tries -/
inductive Tr (α : Type) where
  | lf
  | nd (l : Tr α) (v : Option α) (r : Tr α)

def Tr.get {α : Type} (t : Tr α) : Nat → Option α :=
  Tr.rec (motive := fun _ => Nat → Option α) (fun _ => none)
    (fun _ v _ ihl ihr i => Nat.rec (motive := fun _ => Option α) v (fun j _ => Bool.rec (motive := fun _ => Option α) (ihr (Nat.div j 2)) (ihl (Nat.div j 2)) (Nat.beq (Nat.mod j 2) 0)) i) t

def Tr.set {α : Type} (n : Nat) : Tr α → Nat → Option α → Tr α :=
  Nat.rec (motive := fun _ => Tr α → Nat → Option α → Tr α) (fun t _ _ => t)
    (fun _ ih t i x => Tr.rec (motive := fun _ => Tr α)
      (Nat.rec (motive := fun _ => Tr α) (.nd .lf x .lf) (fun j _ => Bool.rec (motive := fun _ => Tr α) (.nd .lf none (ih .lf (Nat.div j 2) x)) (.nd (ih .lf (Nat.div j 2) x) none .lf) (Nat.beq (Nat.mod j 2) 0)) i)
      (fun l v r _ _ => Nat.rec (motive := fun _ => Tr α) (.nd l x r) (fun j _ => Bool.rec (motive := fun _ => Tr α) (.nd l v (ih r (Nat.div j 2) x)) (.nd (ih l (Nat.div j 2) x) v r) (Nat.beq (Nat.mod j 2) 0)) i) t) n

/-! ### States -/
/-- what a float is made of: 0: a variable; 1: sum; 2: difference; 3: product; 4: opposite -/
structure FN where
  op : Nat
  x : Nat
  y : Nat

inductive AO where
  | cells (t : TypeId) (ro : Bool) (c : List Value)
  | loop (st : LoopState) (pending : Option Code) (fn : FuncId) (nt : Nat) (T : Tr Value) (ps : List Tmp) (assign body : Code) (defers : Nat)
  | defd (taken : Bool)
  | map (es : List (Value × Value × Nat)) (clock : Nat)

inductive ADef where
  | mark (r : Nat)
  | call (f : FuncId) (args : List Value)

structure St where
  T : Tr Value
  H : Tr AO
  nx : Nat
  W : List Nat
  D : List FN
  nd : Nat
  df : List ADef

/-- what a frame keeps: its function, how many slots it has, the loop whose round it is; and the first block that is not noted when it is written -/
structure En where
  fn : FuncId
  nt : Nat
  rd : Option Nat
  base : Nat

/-- a float that is no word, but made of others: its number, and this -/
def SYM : Nat := 18446744073709551616
/-- a capacity that is not known: and the size of an element (0: not known) -/
def OPEN : Nat := 18446744073709551616

def flat : Nat → Value → Bool
  | 0, _ => false
  | n + 1, v => match v with
    | .bool _ | .int _ _ | .string _ | .nilFunc | .nilIface | .pointer none | .map none => true
    | .slice none _ c => Nat.blt c OPEN
    | .float _ b => Nat.blt b SYM
    | .func (.func _) a b => a.toList.all (flat n) && b.toList.all (flat n)
    | .iface _ v => flat n v
    | .agg cs => cs.toList.all (flat n)
    | .tuple cs => cs.toList.all (flat n)
    | _ => false

def pureRun {α : Type} (P : Program) : Sem α → Option α
  | .pure a => some a
  | .program k => pureRun P (k P)
  | .mark _ k => pureRun P k
  | _ => none

def ev (s : St) : Operand → Value
  | .tmp t => (s.T.get t).getD undef
  | .const v => v
  | .global g => .pointer (some ⟨g, 0, none⟩)
  | .func f => .func (.func f) #[] #[]

/-- is an operand one that may be looked at? -/
def okx : Operand → Bool
  | .const v => flat 6 v
  | .global g => Nat.blt g 4
  | _ => true

def evs (s : St) (l : List Operand) : List Value := l.map (ev s)

def put (nt : Nat) (s : St) (dst : Option Tmp) (v : Value) : Option St :=
  match dst with
  | none => some s
  | some d => bif Nat.blt d nt then
      match s with
      | ⟨T, H, nx, W, D, nd, df⟩ => some ⟨T.set 16 d (some v), H, nx, W, D, nd, df⟩
    else none

def new (s : St) (o : AO) : Option (Nat × St) :=
  match s with
  | ⟨T, H, nx, W, D, nd, df⟩ => bif Nat.blt nx 1000000000 then some (nx, ⟨T, H.set 40 nx (some o), Nat.succ nx, W, D, nd, df⟩) else none

def mem : List Nat → Nat → Bool
  | [], _ => false
  | x :: l, b => bif Nat.beq x b then true else mem l b

/-- is noted as written -/
def note (base : Nat) (W : List Nat) (b : Nat) : List Nat := bif Nat.blt b base then bif mem W b then W else b :: W else W

def setO (base : Nat) (s : St) (b : Nat) (o : Option AO) : St :=
  match s with
  | ⟨T, H, nx, W, D, nd, df⟩ => ⟨T, H.set 40 b o, nx, note base W b, D, nd, df⟩

def nth {α : Type} : List α → Nat → Option α
  | [], _ => none
  | x :: l, n => bif Nat.beq n 0 then some x else nth l (Nat.pred n)

def rowAt (s : St) (b : Nat) : Option (List Value) :=
  match s.H.get b with
  | some (.cells _ _ c) => some c
  | _ => none

def sizeT (P : Program) (t : TypeId) : Option Nat := (P.info? t).map (·.size)

def aggT (P : Program) (t : TypeId) : Option Bool :=
  match P.underlying t with
  | some (.struct _) => some true
  | some (.array _ _) => some true
  | some _ => some false
  | none => none

def cutGo : List Value → Nat → Option (List Value)
  | _, 0 => some []
  | [], _ + 1 => none
  | x :: l, n + 1 => (cutGo l n).map (x :: ·)

def cut : List Value → Nat → Nat → Option (List Value)
  | c, 0, n => cutGo c n
  | [], _ + 1, n => cutGo [] n
  | _ :: c, o + 1, n => cut c o n

def loadA (P : Program) (s : St) (t : TypeId) (b o : Nat) : Option Value :=
  match rowAt s b, aggT P t with
  | some c, some true => match sizeT P t with
    | some n => (cut c o n).map fun l => .agg l.toArray
    | none => none
  | some c, some false => nth c o
  | _, _ => none

def lay : List Value → List Value → Option (List Value)
  | c, [] => some c
  | [], _ :: _ => none
  | _ :: c, v :: vs => (lay c vs).map (v :: ·)

/-- cells laid over others, from a place on -/
def over : List Value → Nat → List Value → Option (List Value)
  | c, 0, vs => lay c vs
  | [], _ + 1, _ => none
  | x :: c, o + 1, vs => (over c o vs).map (x :: ·)

def isLeaf : Value → Bool
  | .agg _ => false
  | .tuple _ => false
  | _ => true

def storeCellsA (base : Nat) (s : St) (b o : Nat) (vs : List Value) : Option St :=
  match s.H.get b with
  | some (.cells t false c) => bif vs.all isLeaf then
      match over c o vs with
      | some c' => some (setO base s b (some (.cells t false c')))
      | none => none
    else none
  | _ => none

def storeA (P : Program) (base : Nat) (s : St) (t : TypeId) (b o : Nat) (v : Value) : Option St :=
  match sizeT P t with
  | some n => bif Nat.beq v.cells.size n then storeCellsA base s b o v.cells.toList else none
  | none => none

def newF (s : St) (op x y : Nat) : Option (Value × St) :=
  match s with
  | ⟨T, H, nx, W, D, nd, df⟩ => some (.float .f64 (Nat.add SYM nd), ⟨T, H, nx, W, ⟨op, x, y⟩ :: D, Nat.succ nd, df⟩)

/-- one is nil, the other is none -/
def nilPair : Value → Value → Bool
  | .pointer none, .pointer (some _) => true
  | .slice none _ _, .slice (some _) _ _ => true
  | .map none, .map (some _) => true
  | .nilFunc, .func .. => true
  | .nilIface, .iface .. => true
  | _, _ => false

/-- an operation of which only flat values are asked -/
def flatOp (P : Program) (s : St) (o : Oper) : Option (Value × St) :=
  bif o.op.operands.toList.all (fun x => flat 6 (ev s x)) then
    match pureRun P (execOp (ev s) o) with
    | some (.value v) => bif flat 6 v then some (v, s) else none
    | _ => none
  else none

def small (n : Nat) : Bool := Nat.blt n 9223372036854775808

def wide : IntKind → Bool
  | .i64 => true
  | .u64 => true
  | _ => false

/-- a number that fits -/
def fit (k : IntKind) (n : Nat) : Option Value := bif small n then some (.int k (.ofNat n)) else none

/-- what is made of two small numbers; none: ask the model -/
def binNat (op : BinOp) (k : IntKind) (x y : Nat) : Option Value :=
  match op with
  | .add => fit k (Nat.add x y)
  | .sub => bif Nat.ble y x then fit k (Nat.sub x y) else none
  | .mul => fit k (Nat.mul x y)
  | .quo => bif Nat.beq y 0 then none else fit k (Nat.div x y)
  | .rem => bif Nat.beq y 0 then none else some (.int k (.ofNat (Nat.mod x y)))
  | .eql => some (.bool (Nat.beq x y))
  | .neq => some (.bool (!Nat.beq x y))
  | .lss => some (.bool (Nat.blt x y))
  | .leq => some (.bool (Nat.ble x y))
  | .gtr => some (.bool (Nat.blt y x))
  | .geq => some (.bool (Nat.ble y x))
  | _ => none

def binInt (op : BinOp) (k k' : IntKind) (a b : Int) : Option Value :=
  match k, k' with
  | .i64, .i64 => match a, b with
    | .ofNat x, .ofNat y => binNat op .i64 x y
    | _, _ => none
  | _, _ => none

def nilA (P : Program) (s : St) (op : BinOp) (t : TypeId) (vx vy : Value) : Option (Value × St) :=
  match pureRun P (binOp op t vx vy) with
  | some v => bif flat 6 v then some (v, s) else none
  | none => none

def binFloat (P : Program) (s : St) (o : Oper) (op : BinOp) (x y : Nat) : Option (Value × St) :=
  bif bif Nat.ble SYM x then true else Nat.ble SYM y then
    match op with
    | .add => newF s 1 x y
    | .sub => newF s 2 x y
    | .mul => newF s 3 x y
    | _ => none
  else flatOp P s o

def binA (P : Program) (s : St) (o : Oper) (op : BinOp) (t : TypeId) (vx vy : Value) : Option (Value × St) :=
  match vx, vy with
  | .int k a, .int k' b => match binInt op k k' a b with
    | some v => some (v, s)
    | none => flatOp P s o
  | .float .f64 x, .float .f64 y => binFloat P s o op x y
  | _, _ =>
    bif bif nilPair vx vy then true else nilPair vy vx then
      match op with
      | .eql => nilA P s .eql t vx vy
      | .neq => nilA P s .neq t vx vy
      | _ => none
    else flatOp P s o

def unA (P : Program) (s : St) (o : Oper) (op : UnOp) (vx : Value) : Option (Value × St) :=
  match op, vx with
  | .neg, .float .f64 x => bif Nat.ble SYM x then newF s 4 x 0 else flatOp P s o
  | _, _ => flatOp P s o

def convA (P : Program) (s : St) (o : Oper) (src dst : TypeId) (x : Value) : Option (Value × St) :=
  match x with
  | .int _ (.ofNat n) => match P.underlying dst, P.underlying src with
    | some (.int .i64), some _ => bif small n then some (.int .i64 (.ofNat n), s) else flatOp P s o
    | some (.int .u64), some _ => bif small n then some (.int .u64 (.ofNat n), s) else flatOp P s o
    | _, _ => flatOp P s o
  | _ => flatOp P s o

def natOf : Value → Option Nat
  | .int _ (.ofNat n) => some n
  | _ => none

def optNat (s : St) : Option Operand → Option (Option Nat)
  | none => some none
  | some x => (natOf (ev s x)).map some

/-- the three bounds -/
def bounds (len cap : Nat) (lo hi mx : Option Nat) : Option (Nat × Nat × Nat) :=
  match mx with
  | none =>
    let h := hi.getD len
    let l := lo.getD 0
    bif Nat.ble h cap then bif Nat.ble l h then some (l, h, cap) else none else none
  | some m => match hi with
    | none => none
    | some h =>
      let l := lo.getD 0
      bif Nat.ble m cap then bif Nat.ble h m then bif Nat.ble l h then some (l, h, m) else none else none else none

def sliceShut (size : Nat) (a : Option Addr) (x : Option (Nat × Nat × Nat)) : Option Value :=
  match x with
  | none => none
  | some (l, h, m) => bif Nat.blt m OPEN then some (.slice (bif Nat.beq m l then a else a.map (·.add (l * size))) (h - l) (m - l)) else none

/-- of a slice whose capacity is not known -/
def sliceOpen (size : Nat) (a : Addr) (len cap : Nat) (lo hi mx : Option Nat) : Option Value :=
  match mx with
  | some _ => sliceShut size (some a) (bounds len len lo hi mx)
  | none =>
    match bounds len len lo hi none with
    | none => none
    | some (l, h, _) =>
      bif Nat.beq l 0 then some (.slice (some a) h cap)
      else bif Nat.blt l len then some (.slice (some (a.add (l * size))) (h - l) OPEN) else none

def sliceA (P : Program) (t : TypeId) (x : Value) (lo hi mx : Option Nat) : Option Value :=
  match P.underlying t, x with
  | some (.slice elem), .slice a len cap =>
    match sizeT P elem with
    | none => none
    | some size =>
      bif Nat.blt cap OPEN then sliceShut size a (bounds len cap lo hi mx)
      else match a with
        | some a => sliceOpen size a len cap lo hi mx
        | none => none
  | some (.array n elem), .pointer (some a) =>
    match sizeT P elem with
    | none => none
    | some size => sliceShut size (some a) (bounds n n lo hi mx)
  | _, _ => none

def indexAddrA (P : Program) (t : TypeId) (x : Value) (i : Nat) : Option Value :=
  match P.underlying t, x with
  | some (.array n elem), .pointer (some a) =>
    match sizeT P elem with
    | some size => bif Nat.blt i n then some (.pointer (some (a.add (Nat.mul i size)))) else none
    | none => none
  | some (.slice elem), .slice (some a) len _ =>
    match sizeT P elem with
    | some size => bif Nat.blt i len then some (.pointer (some (a.add (Nat.mul i size)))) else none
    | none => none
  | _, _ => none

/-- where a field lies -/
def fieldOff (P : Program) (t : TypeId) (f : Nat) : Option Nat :=
  match P.underlying t with
  | some (.struct fs) =>
    match fs[f]? with
    | some fd => match sizeT P fd.type with
      | some n => bif Nat.beq n 0 then none else some fd.offset
      | none => none
    | none => none
  | _ => none

def fieldAddrA (P : Program) (t : TypeId) (x : Value) (f : Nat) : Option Value :=
  match fieldOff P t f, x with
  | some o, .pointer (some a) => some (.pointer (some (a.add o)))
  | _, _ => none

def partA (P : Program) (t : TypeId) (cs : List Value) (off : Nat) : Option Value :=
  match aggT P t with
  | some true => match sizeT P t with
    | some n => (cut cs off n).map fun l => .agg l.toArray
    | none => none
  | some false => nth cs off
  | none => none

def fieldA (P : Program) (t : TypeId) (x : Value) (f : Nat) : Option Value :=
  match P.underlying t, x with
  | some (.struct fs), .agg cs =>
    match fs[f]? with
    | some fd => partA P fd.type cs.toList fd.offset
    | none => none
  | _, _ => none

def indexA (P : Program) (t : TypeId) (cs : Array Value) (i : Nat) : Option Value :=
  match P.underlying t with
  | some (.array n elem) =>
    match sizeT P elem with
    | some size => bif Nat.blt i n then partA P elem cs.toList (Nat.mul i size) else none
    | none => none
  | _ => none

def zeroT (P : Program) (t : TypeId) : Option Value :=
  match (P.info? t).bind (·.zero) with
  | some z => bif flat 6 z && z.cells.toList.all (flat 6) then some z else none
  | none => none

def fillA (place : Nat → Option (Nat × Nat)) : List Value → List (Nat × Value) → Option (List Value)
  | cells, [] => some cells
  | cells, (i, v) :: rest =>
    match place i with
    | none => none
    | some (off, size) =>
      bif Nat.beq v.cells.size size then
        match over cells off v.cells.toList with
        | some c => fillA place c rest
        | none => none
      else none

def placeT (P : Program) (fs : Array Field) (i : Nat) : Option (Nat × Nat) :=
  match fs[i]? with
  | some f => match sizeT P f.type with
    | some n => some (f.offset, n)
    | none => none
  | none => none

def buildA (P : Program) (t : TypeId) (parts : List (Nat × Value)) : Option Value :=
  match zeroT P t, P.underlying t with
  | some z, some (.struct fs) => bif fs.toList.all (fun f => (sizeT P f.type).isSome) then (fillA (placeT P fs) z.cells.toList parts).map fun l => .agg l.toArray else none
  | some z, some (.array _ elem) =>
    match sizeT P elem with
    | some size => (fillA (fun i => some (i * size, size)) z.cells.toList parts).map fun l => .agg l.toArray
    | none => none
  | _, _ => none

def zeros (z : List Value) : Nat → List Value
  | 0 => []
  | n + 1 => z ++ zeros z n

def buildSliceA (P : Program) (s : St) (t : TypeId) (len : Nat) (parts : List (Nat × Value)) : Option (Value × St) :=
  match P.underlying t with
  | some (.slice elem) =>
    match sizeT P elem, zeroT P elem with
    | some size, some z =>
      bif Nat.ble (len * size) 16777216 && Nat.beq z.cells.size size then
        match fillA (fun i => some (i * size, size)) (zeros z.cells.toList len) parts with
        | some cells => (new s (.cells elem false cells)).map fun (b, s) => (.slice (some ⟨b, 0, none⟩) len len, s)
        | none => none
      else none
    | _, _ => none
  | _ => none

def makeSliceA (P : Program) (s : St) (t : TypeId) (len cap : Nat) : Option (Value × St) :=
  match P.underlying t with
  | some (.slice elem) =>
    match P.info? elem with
    | some i =>
      match zeroT P elem with
      | some z =>
        bif Nat.ble len cap && Nat.ble cap 16777216 && Nat.ble i.bytes 65536 && Nat.beq z.cells.size i.size then
          (new s (.cells elem false (zeros z.cells.toList cap))).map fun (b, s) => (.slice (some ⟨b, 0, none⟩) len cap, s)
        else none
      | none => none
    | none => none
  | _ => none

/-- the cells of the first n elements of a slice -/
def cellsA (s : St) (size n : Nat) : Value → Option (List Value)
  | .slice (some a) _ _ => match rowAt s a.block with
    | some c => cut c a.off (n * size)
    | none => none
  | .slice none _ _ => bif Nat.beq n 0 then some [] else none
  | _ => none

def lenA : Value → Option Nat
  | .slice _ n _ => some n
  | _ => none

/-- room for what is appended is made -/
def growA (P : Program) (s : St) (elem : TypeId) (i : TypeInfo) (xs ys : List Value) (len : Nat) : Option (Value × St) :=
  match zeroT P elem with
  | some z =>
    bif Nat.ble len 16777216 && (Nat.ble i.bytes 65536 && (Nat.blt 0 i.bytes && Nat.beq z.cells.size i.size)) then
      match new s (.cells elem false (xs ++ ys)) with
      | some (b, s) => some (.slice (some ⟨b, 0, none⟩) len (OPEN + i.size), s)
      | none => none
    else none
  | none => none

def appendShut (P : Program) (base : Nat) (s : St) (elem : TypeId) (i : TypeInfo) (a : Option Addr) (len cap n : Nat) (x : Value) (ys : List Value) : Option (Value × St) :=
  bif Nat.ble (len + n) cap then
    match a with
    | some a => (storeCellsA base s a.block (a.off + len * i.size) ys).map fun s => (.slice (some a) (len + n) cap, s)
    | none => bif Nat.beq n 0 then some (x, s) else none
  else
    match cellsA s i.size len x with
    | some xs => growA P s elem i xs ys (len + n)
    | none => none

def appendOpen (P : Program) (base : Nat) (s : St) (elem : TypeId) (i : TypeInfo) (a : Option Addr) (len cap n : Nat) (x : Value) (ys : List Value) : Option (Value × St) :=
  bif Nat.beq cap (OPEN + i.size) && Nat.blt 0 i.size then
    bif Nat.beq n 0 then some (x, s)
    else match a, cellsA s i.size len x with
      | some a, some xs =>
        match s.H.get a.block with
        | some (.cells t false _) =>
          bif Nat.beq a.off 0 && Nat.beq t elem && ys.all isLeaf then growA P (setO base s a.block none) elem i xs ys (len + n) else none
        | _ => none
      | _, _ => none
  else none

/-- what is appended: how many, and their cells -/
def addsA (P : Program) (s : St) (elem : TypeId) (i : TypeInfo) (xT : TypeId) (y : Value) : Option (Nat × List Value) :=
  match P.underlying xT with
  | some (.slice _) => match lenA y with
    | some n => (cellsA s i.size n y).map fun ys => (n, ys)
    | none => none
  | some (.int _) => match y, zeroT P elem with
    | .int .i64 (.ofNat n), some z => bif Nat.ble n 65536 && (Nat.ble i.bytes 65536 && Nat.beq z.cells.size i.size) then some (n, zeros z.cells.toList n) else none
    | _, _ => none
  | _ => none

def appendA (P : Program) (base : Nat) (s : St) (tys : List TypeId) (x y : Value) : Option (Value × St) :=
  match tys with
  | [sT, xT] =>
    match P.underlying sT with
    | some (.slice elem) =>
      match P.info? elem, x with
      | some i, .slice a len cap =>
        match addsA P s elem i xT y with
        | some (n, ys) => bif Nat.blt cap OPEN then appendShut P base s elem i a len cap n x ys else appendOpen P base s elem i a len cap n x ys
        | none => none
      | _, _ => none
    | _ => none
  | _ => none

def copyA (P : Program) (base : Nat) (s : St) (tys : List TypeId) (x y : Value) : Option (Value × St) :=
  match tys with
  | sT :: _ =>
    match P.underlying sT with
    | some (.slice elem) =>
      match sizeT P elem, x, lenA y with
      | some size, .slice a len _, some n =>
        let k := Nat.min n len
        match cellsA s size k y with
        | some ys =>
          match a with
          | some a => (storeCellsA base s a.block a.off ys).map fun s => (goInt k, s)
          | none => some (goInt k, s)
        | none => none
      | _, _, _ => none
    | _ => none
  | _ => none

/-! Maps: the entry with this key. -/
def sameKey (P : Program) (t : TypeId) (k k' : Value) : Option Bool := bif flat 6 k && flat 6 k' then pureRun P (Op.equal t k k') else none

def noneK (P : Program) (t : TypeId) (k : Value) : List (Value × Value × Nat) → Bool
  | [] => true
  | (k', _, _) :: es => match sameKey P t k k' with
    | some false => noneK P t k es
    | _ => false

def findK (P : Program) (t : TypeId) (k : Value) : List (Value × Value × Nat) → Option (Option Value)
  | [] => some none
  | (k', v, _) :: es => match sameKey P t k k' with
    | some true => bif noneK P t k es then some (some v) else none
    | some false => findK P t k es
    | none => none

def keyOk (P : Program) (key : TypeId) (k : Value) (empty : Bool) : Bool :=
  flat 6 k && ((P.underlying key).isSome && (pureRun P (Instr.checkKey empty 10000 key k)).isSome)

def lookupA (P : Program) (s : St) (t : TypeId) (x k : Value) (ok : Bool) : Option Value :=
  match P.underlying t, x with
  | some (.map key elem), .map (some r) =>
    match s.H.get r with
    | some (.map es _) =>
      bif keyOk P key k es.isEmpty then
        match findK P key k es with
        | some (some v) => some (bif ok then .tuple #[v, .bool true] else v)
        | some none => match zeroT P elem with
          | some z => some (bif ok then .tuple #[z, .bool false] else z)
          | none => none
        | none => none
      else none
    | _ => none
  | _, _ => none

/-- a key that is not there yet -/
def mapNewA (P : Program) (base : Nat) (s : St) (t : TypeId) (x k v : Value) : Option (Value × St) :=
  match P.underlying t, x with
  | some (.map key _), .map (some r) =>
    match s.H.get r with
    | some (.map es c) =>
      bif keyOk P key k false then
        match findK P key k es with
        | some none => some (undef, setO base s r (some (.map (es ++ [(k, v, c)]) (c + 1))))
        | _ => none
      else none
    | _ => none
  | _, _ => none

def isSliceT (P : Program) (t : TypeId) : Bool :=
  match P.underlying t with
  | some (.slice _) => true
  | _ => false

def lenOp (P : Program) (s : St) (o : Oper) (tys : List TypeId) (x : Value) : Option (Value × St) :=
  match x, tys with
  | .slice _ n _, [t] => bif isSliceT P t then some (.int .i64 (.ofNat n), s) else none
  | _, _ => flatOp P s o

def capOp (P : Program) (s : St) (tys : List TypeId) (x : Value) : Option (Value × St) :=
  match x, tys with
  | .slice _ _ c, [t] => bif isSliceT P t && Nat.blt c OPEN then some (.int .i64 (.ofNat c), s) else none
  | _, _ => none

def builtinA (P : Program) (base : Nat) (s : St) (o : Oper) (b : Builtin) (tys : List TypeId) (args : List Value) : Option (Value × St) :=
  match b, args with
  | .append, [x, y] => appendA P base s tys x y
  | .copy, [x, y] => copyA P base s tys x y
  | .len, [x] => lenOp P s o tys x
  | .cap, [x] => capOp P s tys x
  | .max, _ => flatOp P s o
  | .min, _ => flatOp P s o
  | _, _ => none

def allocA (P : Program) (s : St) (t : TypeId) : Option (Value × St) :=
  match zeroT P t with
  | some z => (new s (.cells t false z.cells.toList)).map fun (b, s) => (.pointer (some ⟨b, 0, none⟩), s)
  | none => none

def boxA (s : St) (t : TypeId) (v : Value) : Option (Value × St) := (new s (.cells t false v.cells.toList)).map fun (b, s) => (.pointer (some ⟨b, 0, none⟩), s)

def pickA (c a b : Value) : Option Value :=
  match c with
  | .bool true => some a
  | .bool false => some b
  | _ => none

def loadOp (P : Program) (s : St) (t : TypeId) (a : Value) : Option Value :=
  match a with
  | .pointer (some a) => loadA P s t a.block a.off
  | _ => none

def storeOp (P : Program) (base : Nat) (s : St) (t : TypeId) (a x : Value) : Option (Value × St) :=
  match a with
  | .pointer (some a) => (storeA P base s t a.block a.off x).map fun s => (undef, s)
  | _ => none

def nilCheckA (x : Value) : Option Value :=
  match x with
  | .pointer (some a) => some (.pointer (some a))
  | .func (.func f) a b => some (.func (.func f) a b)
  | _ => none

def ifaceA (P : Program) (t : TypeId) (v : Value) : Option Value :=
  match P.underlying t with
  | some (.interface _) => none
  | some _ => some (.iface t v)
  | none => none

def mapA (P : Program) (s : St) (t : TypeId) (h : Option Value) : Option (Value × St) :=
  match h with
  | none => (new s (.map [] 0)).map fun (b, s) => (.map (some b), s)
  | some h => match P.underlying t, h with
    | some (.map _ _), .int _ _ => (new s (.map [] 0)).map fun (b, s) => (.map (some b), s)
    | _, _ => none

def makeSliceOp (P : Program) (s : St) (t : TypeId) (l c : Value) : Option (Value × St) :=
  match natOf l, natOf c with
  | some l, some c => makeSliceA P s t l c
  | _, _ => none

def sliceOp (P : Program) (s : St) (t : TypeId) (x : Value) (lo hi mx : Option Operand) : Option Value :=
  match optNat s lo, optNat s hi, optNat s mx with
  | some lo, some hi, some mx => sliceA P t x lo hi mx
  | _, _, _ => none

def indexAddrOp (P : Program) (t : TypeId) (x i : Value) : Option Value :=
  match natOf i with
  | some i => indexAddrA P t x i
  | none => none

def indexOp (P : Program) (s : St) (o : Oper) (t : TypeId) (x i : Value) : Option (Value × St) :=
  match x, natOf i with
  | .agg cs, some i => (indexA P t cs i).map fun v => (v, s)
  | _, _ => flatOp P s o

def extractA (t : Value) (i : Nat) : Option Value :=
  match t with
  | .tuple vs => nth vs.toList i
  | _ => none

def withS (s : St) (v : Option Value) : Option (Value × St) :=
  match v with
  | some v => some (v, s)
  | none => none

/-- the operations that call nothing -/
def lightOp (P : Program) (base : Nat) (s : St) (o : Oper) : Option (Value × St) :=
  match o.op with
  | .move x => some (ev s x, s)
  | .assign x => some (ev s x, s)
  | .pick c a b => withS s (pickA (ev s c) (ev s a) (ev s b))
  | .alloc t => allocA P s t
  | .box t x => boxA s t (ev s x)
  | .build t ps => withS s (buildA P t (ps.toList.map fun p => (p.1, ev s p.2)))
  | .buildSlice t n ps => bif Nat.blt n OPEN then buildSliceA P s t n (ps.toList.map fun p => (p.1, ev s p.2)) else none
  | .load t a => withS s (loadOp P s t (ev s a))
  | .store t a x => storeOp P base s t (ev s a) (ev s x)
  | .nilCheck x => withS s (nilCheckA (ev s x))
  | .binOp op t x y _ => binA P s o op t (ev s x) (ev s y)
  | .unOp op _ x => unA P s o op (ev s x)
  | .convert a b x => convA P s o a b (ev s x)
  | .makeInterface t x => withS s (ifaceA P t (ev s x))
  | .makeFunc (.func f) first cap => some (.func (.func f) (first.map (ev s)) (cap.map (ev s)), s)
  | .makeMap t h => mapA P s t (h.map (ev s))
  | .makeSlice t l c => makeSliceOp P s t (ev s l) (ev s c)
  | .slice t x lo hi mx => withS s (sliceOp P s t (ev s x) lo hi mx)
  | .fieldAddr t x f => withS s (fieldAddrA P t (ev s x) f)
  | .field t x f => withS s (fieldA P t (ev s x) f)
  | .indexAddr t x i => withS s (indexAddrOp P t (ev s x) (ev s i))
  | .index t x i => indexOp P s o t (ev s x) (ev s i)
  | .lookup t x k ok => withS s (lookupA P s t (ev s x) (ev s k) ok)
  | .mapUpdate t m k x => mapNewA P base s t (ev s m) (ev s k) (ev s x)
  | .insert t m k x => mapNewA P base s t (ev s m) (ev s k) (ev s x)
  | .extract t i => withS s (extractA (ev s t) i)
  | .call c => match c.callee with
    | .builtin b => builtinA P base s o b c.argTypes.toList (evs s c.args.toList)
    | _ => none
  | _ => none

/-- the blocks that it reads or writes -/
def blockOf : Value → List Nat
  | .pointer (some a) => [a.block]
  | .slice (some a) _ _ => [a.block]
  | .map (some r) => [r]
  | _ => []

def touches (s : St) (o : Oper) : List Nat :=
  match o.op with
  | .load _ a => blockOf (ev s a)
  | .store _ a _ => blockOf (ev s a)
  | .lookup _ m _ _ => blockOf (ev s m)
  | .mapUpdate _ m _ _ => blockOf (ev s m)
  | .insert _ m _ _ => blockOf (ev s m)
  | .call c => match c.callee with
    | .builtin .append => c.args.toList.flatMap fun x => blockOf (ev s x)
    | .builtin .copy => c.args.toList.flatMap fun x => blockOf (ev s x)
    | _ => []
  | _ => []

def isCall (o : Oper) : Bool :=
  match o.op with
  | .call c => match c.callee with
    | .builtin _ => false
    | _ => true
  | _ => false

abbrev Plug := FuncId → Option (List Value → Nat → St → Option (Value × St))

abbrev Rec := Code → En → St → Option (Exit × St)

def tmpsGo : List Value → Nat → Tr Value → Tr Value
  | [], _, t => t
  | v :: vs, i, t => tmpsGo vs (Nat.succ i) (t.set 16 i (some v))

def tmpsOf (args : List Value) : Tr Value := tmpsGo args 0 .lf

def resultsA (P : Program) (s : St) : List ResultVar → Option (List Value)
  | [] => some []
  | .tmp t :: rs => (resultsA P s rs).map ((s.T.get t).getD undef :: ·)
  | .cell a t :: rs => match loadOp P s t ((s.T.get a).getD undef), resultsA P s rs with
    | some v, some vs => some (v :: vs)
    | _, _ => none

def oneOf : List Value → Value
  | [v] => v
  | vs => .tuple vs.toArray

/-- a state in another frame's slots -/
def inFrame (s : St) (T : Tr Value) : St :=
  match s with
  | ⟨_, H, nx, W, D, nd, _⟩ => ⟨T, H, nx, W, D, nd, []⟩

def backTo (s0 s : St) : St :=
  match s0 with
  | ⟨T, _, _, _, _, _, df⟩ => match s with
    | ⟨_, H, nx, W, D, nd, _⟩ => ⟨T, H, nx, W, D, nd, df⟩

/-- a function without a body, which the model answers by itself -/
def externA (P : Program) (f : FuncId) (args : List Value) (s : St) : Option (Value × St) :=
  bif args.all (flat 6) then
    match pureRun P (callFunc f args.toArray) with
    | some (.value v) => bif flat 6 v then some (v, s) else none
    | _ => none
  else none

/-- a function's body, run in slots of its own -/
def bodyA (rec : Rec) (base : Nat) (f : FuncId) (fn : Func) (args : List Value) (s : St) : Option St :=
  match fn.body with
  | none => none
  | some c =>
    bif bif Nat.ble fn.ntmps 60000 then Nat.ble args.length fn.ntmps else false then
      match rec c ⟨f, fn.ntmps, none, base⟩ (inFrame s (tmpsOf args)) with
      | some (.normal, s1) => some s1
      | some (.ret, s1) => some s1
      | _ => none
    else none

/-- what it hands back -/
def backFn (P : Program) (fn : Func) (s s2 : St) : Option (Value × St) :=
  match resultsA P s2 fn.results.toList with
  | some vs => some (oneOf vs, backTo s s2)
  | none => none

/-- a deferred call: of a function that defers nothing itself -/
def deferFn (P : Program) (rec : Rec) (base : Nat) (f : FuncId) (args : List Value) (s : St) : Option St :=
  match P.funcs[f]? with
  | none => none
  | some fn => match bodyA rec base f fn args s with
    | none => none
    | some s1 => match s1.df with
      | [] => match backFn P fn s s1 with
        | some (_, s2) => some s2
        | none => none
      | _ :: _ => none

def leaveFn (P : Program) (rec : Rec) (base : Nat) : List ADef → St → Option St
  | [], s => some s
  | .mark r :: ds, s => match s.H.get r with
    | some (.defd false) => leaveFn P rec base ds (setO base s r (some (.defd true)))
    | _ => none
  | .call f args :: ds, s => match deferFn P rec base f args s with
    | some s1 => leaveFn P rec base ds s1
    | none => none

/-- a function is called -/
def callFn (P : Program) (plug : Plug) (rec : Rec) (base : Nat) (f : FuncId) (args : List Value) (s : St) : Option (Value × St) :=
  match plug f with
  | some g => g args base s
  | none =>
    match P.funcs[f]? with
    | none => none
    | some fn =>
      match fn.body with
      | none => externA P f args s
      | some _ => match bodyA rec base f fn args s with
        | none => none
        | some s1 => match leaveFn P rec base s1.df s1 with
          | none => none
          | some s2 => backFn P fn s s2

def layParams : List Tmp → List Value → Tr Value → Tr Value
  | p :: ps, v :: vs, t => layParams ps vs (t.set 16 p (some v))
  | _, _, t => t

def backA (base l : Nat) (s s2 : St) (j : Option Code) (st : LoopState) (fn : FuncId) (nt : Nat) (T : Tr Value) (ps : List Tmp) (a b : Code) (d : Nat) : Option (Value × St) :=
  some (.bool j.isNone, backTo s (setO base s2 l (some (.loop st j fn nt T ps a b d))))

def roundEnd (base l : Nat) (s : St) (e : Exit) (s2 : St) : Option (Value × St) :=
  match s2.H.get l, s2.df with
  | some (.loop _ _ fn nt T ps a b d), [] =>
    match e with
    | .normal => backA base l s s2 none .ready fn nt T ps a b d
    | .ret => backA base l s s2 (some .ret) .done fn nt T ps a b d
    | .exit id => backA base l s s2 (some (.exit id)) .done fn nt T ps a b d
    | .goto t => backA base l s s2 (some (.goto t)) .done fn nt T ps a b d
    | _ => none
  | _, _ => none

/-- a round of a loop over a function -/
def roundA (rec : Rec) (base : Nat) (l : Nat) (args : List Value) (s : St) : Option (Value × St) :=
  match s.H.get l with
  | some (.loop .ready _ fn nt T ps assign body _) =>
    bif Nat.beq args.length ps.length && ps.all (fun p => Nat.blt p nt) && Nat.ble nt 60000 then
      match rec assign ⟨fn, nt, some l, base⟩ (inFrame s (layParams ps args T)) with
      | some (.normal, s1) =>
        match s1.H.get l with
        | some (.loop .ready pd fn1 nt1 T1 ps1 a1 b1 d1) =>
          match rec body ⟨fn, nt, some l, base⟩ (setO base s1 l (some (.loop .busy pd fn1 nt1 T1 ps1 a1 b1 d1))) with
          | some (e, s2) => roundEnd base l s e s2
          | none => none
        | _ => none
      | _ => none
    else none
  | _ => none

/-- a function value is called -/
def callV (P : Program) (plug : Plug) (rec : Rec) (base : Nat) (f : Value) (args : List Value) (s : St) : Option (Value × St) :=
  match f with
  | .func (.func g) first cap => callFn P plug rec base g (first.toList ++ (args ++ cap.toList)) s
  | .func (.yield l) first cap => bif first.isEmpty && cap.isEmpty then roundA rec base l args s else none
  | _ => none

def hasBody (P : Program) (f : FuncId) : Bool :=
  match P.funcs[f]? with
  | some fn => fn.body.isSome
  | none => false

/-- the one call of a loop over a function -/
def rangeCall (P : Program) (plug : Plug) (rec : Rec) (base : Nat) (f : Value) (args : List Value) (s : St) : Option (Value × St) :=
  match f with
  | .func (.func g) first cap => bif hasBody P g then callFn P plug rec base g (first.toList ++ (args ++ cap.toList)) s else none
  | _ => none

def methodA (P : Program) (recv : Value) (name : String) : Option (FuncId × Value) :=
  match recv with
  | .iface t v => bif flat 6 v then
      match pureRun P (method (P.types.size + Made.depth) t v name) with
      | some (f, r) => bif flat 6 r then some (f, r) else none
      | none => none
    else none
  | _ => none

def callOp (P : Program) (plug : Plug) (rec : Rec) (base : Nat) (s : St) (c : Call) : Option (Value × St) :=
  match c.callee with
  | .value f => callV P plug rec base (ev s f) (evs s c.args.toList) s
  | .invoke r name => match methodA P (ev s r) name with
    | some (f, r) => callFn P plug rec base f (r :: evs s c.args.toList) s
    | none => none
  | .builtin _ => none

def deferA (rd : Option Nat) (s : St) (c : Call) : Option (Value × St) :=
  match rd, c.callee with
  | none, .value f => match ev s f with
    | .func (.func g) first cap => match s with
      | ⟨T, H, nx, W, D, nd, df⟩ => some (undef, ⟨T, H, nx, W, D, nd, .call g (first.toList ++ (evs s c.args.toList ++ cap.toList)) :: df⟩)
    | _ => none
  | _, _ => none

/-- constants are flat -/
def opOk (o : Oper) : Bool := o.op.operands.toList.all okx

def evOp (P : Program) (plug : Plug) (rec : Rec) (E : En) (s : St) (o : Oper) : Option (Value × St) :=
  bif opOk o then
    bif isCall o then
      match o.op with
      | .call c => callOp P plug rec E.base s c
      | _ => none
    else match o.op with
      | .defer c => deferA E.rd s c
      | _ => lightOp P E.base s o
  else none

def yieldedA (ops : List Oper) (s : St) (j : Nat) : Option Bool :=
  match (ops[j]?).bind (·.dst) with
  | some t => match s.T.get t with
    | some (.bool b) => some b
    | _ => none
  | none => none

def wantedA (ops : List Oper) (s : St) (o : Oper) : Bool :=
  match o.guard with
  | none => true
  | some (j, want) => match yieldedA ops s j with
    | some b => bif b then want else !want
    | none => false

/-- one after the other -/
def plainGo (P : Program) (plug : Plug) (rec : Rec) (E : En) (ops : List Oper) : List Oper → St → Option St
  | [], s => some s
  | o :: rest, s =>
    bif wantedA ops s o then
      match evOp P plug rec E s o with
      | some (v, s1) => match put E.nt s1 o.dst v with
        | some s2 => plainGo P plug rec E ops rest s2
        | none => none
      | none => none
    else match put E.nt s o.dst undef with
      | some s2 => plainGo P plug rec E ops rest s2
      | none => none

/-! Drawn regions. -/
/-- those before an operation, as bits -/
def ancOf (acc : List Nat) (o : Oper) : Nat := o.after.toList.foldl (fun m e => bif Region.binds .any e then Nat.lor m (Nat.lor (Nat.shiftLeft 1 e.on) ((nth acc e.on).getD 0)) else m) 0

def ancs : List Oper → List Nat → List Nat
  | [], acc => acc
  | o :: rest, acc => ancs rest (acc ++ [ancOf acc o])

def binOn (o : Oper) (j : Nat) : Bool := o.after.toList.all fun e => !Region.binds .any e || Nat.blt e.on j

def lightKind (o : Oper) : Bool :=
  match o.op with
  | .defer _ => false
  | .go _ => false
  | .select .. => false
  | _ => true

/-- whoever is unordered is apart; edges lead back -/
def pairOk (ops : Array Oper) (an : List Nat) (oj : Oper) (j i : Nat) : Bool :=
  match ops[i]? with
  | none => false
  | some oi => Nat.testBit ((nth an j).getD 0) i || Oper.apart ops oi oj

def regOk (ops : Array Oper) : Bool :=
  (List.range ops.size).all fun j => match ops[j]? with
    | none => false
    | some oj => binOn oj j && lightKind oj && (List.range j).all (pairOk ops (ancs ops.toList []) oj j)

structure Did where
  i : Nat
  call : Bool
  W : List Nat
  lo : Nat
  hi : Nat
  rd : List Nat

def Did.has (r : Did) (b : Nat) : Bool := bif mem r.W b then true else bif Nat.ble r.lo b then Nat.blt b r.hi else false

def hideRange (lo : Nat) : Nat → Tr AO → Tr AO
  | 0, h => h
  | n + 1, h => hideRange lo n (h.set 40 (lo + n) none)

def hideList : List Nat → Tr AO → Tr AO
  | [], h => h
  | b :: bs, h => hideList bs (h.set 40 b none)

def hide : List Did → Tr AO → Tr AO
  | [], h => h
  | r :: rs, h => hide rs (hideList r.W (hideRange r.lo (r.hi - r.lo) h))

def showRange (H : Tr AO) (lo : Nat) : Nat → Tr AO → Tr AO
  | 0, h => h
  | n + 1, h => showRange H lo n (h.set 40 (lo + n) (H.get (lo + n)))

def showList (H : Tr AO) : List Nat → Tr AO → Tr AO
  | [], h => h
  | b :: bs, h => showList H bs (h.set 40 b (H.get b))

def unhide (H : Tr AO) : List Did → Tr AO → Tr AO
  | [], h => h
  | r :: rs, h => unhide H rs (showList H r.W (showRange H r.lo (r.hi - r.lo) h))

def joinW (base : Nat) : List Nat → List Nat → List Nat
  | [], w => w
  | b :: bs, w => joinW base bs (note base w b)

def unordered (an : Nat) (ds : List Did) : List Did := ds.filter fun d => !Nat.testBit an d.i

/-- a state for one operation of a drawn region -/
def forOp (s : St) (H : Tr AO) : St :=
  match s with
  | ⟨T, _, nx, _, D, nd, df⟩ => ⟨T, H, nx, [], D, nd, df⟩

def fromOp (base : Nat) (s1 : St) (H : Tr AO) (W : List Nat) : St :=
  match s1 with
  | ⟨T, _, nx, W1, D, nd, df⟩ => ⟨T, H, nx, joinW base W1 W, D, nd, df⟩

def clear (W : List Nat) (un : List Did) : Bool := un.all fun d => (bif d.call then W.isEmpty else true) && d.rd.all fun b => !mem W b

def addDid (tc : List Nat) (j lo : Nat) (s1 : St) (ds : List Did) : List Did :=
  match tc with
  | [] => match s1.W with
    | [] => bif Nat.beq lo s1.nx then ds else ⟨j, false, [], lo, s1.nx, []⟩ :: ds
    | w :: ws => ⟨j, false, w :: ws, lo, s1.nx, []⟩ :: ds
  | c :: cs => ⟨j, false, s1.W, lo, s1.nx, c :: cs⟩ :: ds

def lightD (P : Program) (plug : Plug) (rec : Rec) (E : En) (an : Nat) (o : Oper) (j : Nat) (ds : List Did) (s : St) : Option (Value × St × List Did) :=
  let un := unordered an ds
  let tc := touches s o
  bif un.all (fun d => tc.all fun b => !d.has b) then
    match evOp P plug rec ⟨E.fn, E.nt, E.rd, s.nx⟩ (forOp s s.H) o with
    | some (v, s1) => bif clear s1.W un then some (v, fromOp E.base s1 s1.H s.W, addDid tc j s.nx s1 ds) else none
    | none => none
  else none

def callD (P : Program) (plug : Plug) (rec : Rec) (E : En) (an : Nat) (o : Oper) (j : Nat) (ds : List Did) (s : St) : Option (Value × St × List Did) :=
  let un := unordered an ds
  bif un.all (fun d => !d.call) then
    match evOp P plug rec ⟨E.fn, E.nt, E.rd, s.nx⟩ (forOp s (hide un s.H)) o with
    | some (v, s1) => bif clear s1.W un then some (v, fromOp E.base s1 (unhide s.H un s1.H) s.W, ⟨j, true, s1.W, s.nx, s1.nx, []⟩ :: ds) else none
    | none => none
  else none

def opD (P : Program) (plug : Plug) (rec : Rec) (E : En) (an : Nat) (o : Oper) (j : Nat) (ds : List Did) (s : St) : Option (Value × St × List Did) :=
  bif isCall o then callD P plug rec E an o j ds s
  else lightD P plug rec E an o j ds s

def drawnGo (P : Program) (plug : Plug) (rec : Rec) (E : En) (ops : List Oper) (an : List Nat) : List Oper → Nat → List Did → St → Option St
  | [], _, _, s => some s
  | o :: rest, j, ds, s =>
    bif wantedA ops s o then
      match opD P plug rec E ((nth an j).getD 0) o j ds s with
      | some (v, s1, ds1) => match put E.nt s1 o.dst v with
        | some s2 => drawnGo P plug rec E ops an rest (Nat.succ j) ds1 s2
        | none => none
      | none => none
    else match put E.nt s o.dst undef with
      | some s2 => drawnGo P plug rec E ops an rest (Nat.succ j) ds s2
      | none => none

def regionA (P : Program) (plug : Plug) (rec : Rec) (ops : Array Oper) (draw : Bool) (E : En) (s : St) : Option St :=
  bif draw then
    bif regOk ops then drawnGo P plug rec E ops.toList (ancs ops.toList []) ops.toList 0 [] s else none
  else plainGo P plug rec E ops.toList ops.toList s

def loopGo (rec : Rec) (E : En) (body : Code) : Nat → St → Option (Exit × St)
  | 0, _ => none
  | n + 1, s =>
    match rec body E s with
    | some (.normal, s1) => loopGo rec E body n s1
    | r => r

def scopeGo (rec : Rec) (E : En) (body : Code) : Nat → Code → St → Option (Exit × St)
  | 0, _, _ => none
  | n + 1, cur, s =>
    match rec cur E s with
    | some (.goto l, s1) => match findLabel body l with
      | some rest => scopeGo rec E body n rest s1
      | none => some (.goto l, s1)
    | r => r

/-- the block of the rounds' deferred calls, and the mark -/
def rangeIn (E : En) (s : St) : Option (Nat × St) :=
  match E.rd with
  | none => match new s (.defd false) with
    | some (r, s) => match s with
      | ⟨T, H, nx, W, D, nd, df⟩ => some (r, ⟨T, H, nx, W, D, nd, .mark r :: df⟩)
    | none => none
  | some l => match s.H.get l with
    | some (.loop _ _ _ _ _ _ _ _ d) => some (d, s)
    | _ => none

def rangeOut (rec : Rec) (E : En) (l : Nat) (s : St) : Option (Exit × St) :=
  match s.H.get l with
  | some (.loop st pd fn nt T ps a b d) =>
    match st with
    | .busy => none
    | _ => match pd with
      | none => some (.normal, setO E.base s l (some (.loop .exhausted pd fn nt T ps a b d)))
      | some c => rec c E (setO E.base s l (some (.loop .exhausted pd fn nt T ps a b d)))
  | _ => none

def rangeA (P : Program) (plug : Plug) (rec : Rec) (g : Operand) (ps : Array Tmp) (assign body : Code) (E : En) (s : St) : Option (Exit × St) :=
  match rangeIn E s with
  | none => none
  | some (d, s1) =>
    match new s1 (.loop .ready none E.fn E.nt s1.T ps.toList assign body d) with
    | none => none
    | some (l, s2) =>
      match rangeCall P plug rec E.base (ev s g) [.func (.yield l) #[] #[]] s2 with
      | none => none
      | some (_, s3) => rangeOut rec E l s3

/-- one level -/
def level (P : Program) (plug : Plug) (rec : Rec) : Rec := fun c E s =>
  match c with
  | .skip => some (.normal, s)
  | .label _ => some (.normal, s)
  | .region _ ops draw => match regionA P plug rec ops draw E s with
    | some s => some (.normal, s)
    | none => none
  | .seq a b => match rec a E s with
    | some (.normal, s1) => rec b E s1
    | r => r
  | .cond c a b => bif okx c then
      match ev s c with
      | .bool true => rec a E s
      | .bool false => rec b E s
      | _ => none
    else none
  | .block id body => match rec body E s with
    | some (.exit id', s1) => bif Nat.beq id' id then some (.normal, s1) else some (.exit id', s1)
    | r => r
  | .loop body => loopGo rec E body 1000000 s
  | .rangeFunc g ps assign body => bif okx g then rangeA P plug rec g ps assign body E s else none
  | .exit id => some (.exit id, s)
  | .scope body => scopeGo rec E body 40 body s
  | .goto l => some (.goto l, s)
  | .ret => some (.ret, s)
  | .refuse _ => none

def run (P : Program) (plug : Plug) : Nat → Rec
  | 0 => fun _ _ _ => none
  | n + 1 => level P plug (run P plug n)

def call (P : Program) (plug : Plug) (n : Nat) (f : FuncId) (args : List Value) (base : Nat) (s : St) : Option (Value × St) := callFn P plug (run P plug n) base f args s

def rowsGo : List (Option AO) → Nat → Tr AO → Tr AO
  | [], _, h => h
  | none :: l, i, h => rowsGo l (Nat.succ i) h
  | some o :: l, i, h => rowsGo l (Nat.succ i) (h.set 40 i (some o))

/-- a state with nothing but the listed rows: ids 0.. -/
def start (rows : List (Option AO)) : St := { T := .lf, H := rowsGo rows 0 .lf, nx := rows.length, W := [], D := [], nd := 0, df := [] }

end
end Go.AM
