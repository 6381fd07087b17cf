import Derived.Orders
import Derived.Laws.IdiomCopy
import Derived.Deep.MidRow
import Derived.Deep.AppendSrc
import Derived.IntWalk
import Derived.Laws.Strings
import Derived.Laws.Bits64
import Derived.Laws.BitsLemmas
import Derived.Laws.StructEq
import Derived.Laws.BytesString
/- The evaluator and its simulation, part 1. -/
/- An abstract evaluator of the model's code: no capacities, no tape. Definitions. -/
noncomputable section
namespace Go.Ae
open Go
set_option linter.unusedVariables false

inductive AV where
  | any
  | bool (b : Bool)
  | int (k : IntKind) (n : Int)
  | float (k : FloatKind) (bits : Nat)
  | complex (k : FloatKind) (re im : Nat)
  | str (s : List Nat)
  | ptr (a : Option (Nat × Nat))
  | slice (a : Option (Nat × Nat)) (len cap sz : Nat) (ex : Bool)
  | map (r : Option Nat)
  | func (f : FuncId) (first captured : List AV)
  | yield (l : Nat)
  | nilFunc
  | iface (t : TypeId) (v : AV)
  | nilIface
  | agg (cs : List AV)
  | tuple (vs : List AV)
  deriving Inhabited

def AV.undef : AV := .tuple []
/-- the cells of a value that a variable may hold -/
def AV.cells : AV → Option (List AV)
  | .agg cs => some cs
  | .any => none
  | .tuple _ => none
  | v => some [v]

mutual
def AV.beq : AV → AV → Bool
  | .any, .any => true
  | .bool a, .bool b => a == b
  | .int j a, .int k b => decide (j = k) && decide (a = b)
  | .float j a, .float k b => decide (j = k) && Nat.beq a b
  | .complex j a c, .complex k b d => decide (j = k) && Nat.beq a b && Nat.beq c d
  | .str a, .str b => a == b
  | .ptr a, .ptr b => decide (a = b)
  | .slice a l c s e, .slice a' l' c' s' e' => decide (a = a') && Nat.beq l l' && Nat.beq c c' && Nat.beq s s' && (e == e')
  | .map a, .map b => decide (a = b)
  | .func f x c, .func f' x' c' => Nat.beq f f' && AV.beqs x x' && AV.beqs c c'
  | .yield a, .yield b => Nat.beq a b
  | .nilFunc, .nilFunc => true
  | .iface t v, .iface t' v' => Nat.beq t t' && AV.beq v v'
  | .nilIface, .nilIface => true
  | .agg a, .agg b => AV.beqs a b
  | .tuple a, .tuple b => AV.beqs a b
  | _, _ => false
def AV.beqs : List AV → List AV → Bool
  | [], [] => true
  | a :: x, b :: y => AV.beq a b && AV.beqs x y
  | _, _ => false
end

/-- a tree of values by numbers -/
inductive T (α : Type) where
  | nil
  | node (v : α) (l r : T α)

def T.get {α : Type} (d : α) (t : T α) : Nat → α :=
  T.rec (motive := fun _ => Nat → α) (fun _ => d)
    (fun v _ _ ihl ihr k => Nat.rec (motive := fun _ => α) v (fun k _ => Bool.rec (motive := fun _ => α) (ihr (Nat.div k 2)) (ihl (Nat.div k 2)) (Nat.beq (Nat.mod k 2) 0)) k) t
def T.setF {α : Type} (d : α) (v : α) (f : Nat) : T α → Nat → T α :=
  Nat.rec (motive := fun _ => T α → Nat → T α) (fun t _ => t)
    (fun _ ih t k => T.rec (motive := fun _ => T α)
      (Nat.rec (motive := fun _ => T α) (.node v .nil .nil) (fun k _ => Bool.rec (motive := fun _ => T α) (.node d .nil (ih .nil (Nat.div k 2))) (.node d (ih .nil (Nat.div k 2)) .nil) (Nat.beq (Nat.mod k 2) 0)) k)
      (fun w l r _ _ => Nat.rec (motive := fun _ => T α) (.node v l r) (fun k _ => Bool.rec (motive := fun _ => T α) (.node w l (ih r (Nat.div k 2))) (.node w (ih l (Nat.div k 2)) r) (Nat.beq (Nat.mod k 2) 0)) k) t) f
def T.set {α : Type} (d : α) (t : T α) (k : Nat) (v : α) : T α := T.setF d v (Nat.succ k) t k

abbrev Tm := T AV
structure ALoop where
  state : LoopState
  pending : Option Code
  fn : FuncId
  n : Nat
  tmps : Tm
  params : Array Tmp
  assign : Code
  body : Code
  defers : Nat

inductive AObj where
  | cells (ty : TypeId) (cs : List AV) (ro : Bool) (sib : Option Nat)
  | map (es : List (AV × AV × Nat)) (clock : Nat)
  | siter (s : List Nat) (pos : Nat)
  | miter (m : Option Nat) (since : Nat) (seen : List Nat) (stepped : Nat)
  | loop (l : ALoop)
  | deferred

structure AW where
  heap : T (Option AObj)
  next : Nat

def AW.get (A : AW) (b : Nat) : Option AObj := match A with
  | ⟨h, _⟩ => T.get none h b
def AW.set (A : AW) (b : Nat) (o : Option AObj) : AW := match A with
  | ⟨h, n⟩ => ⟨T.set none h b o, n⟩
def AW.push (A : AW) (o : AObj) : AW := match A with
  | ⟨h, n⟩ => ⟨T.set none h n (some o), Nat.succ n⟩

/-- ids kept for what a region makes -/
def AW.reserve (A : AW) (n : Nat) : AW := match A with
  | ⟨h, m⟩ => ⟨h, Nat.add m n⟩
/-- the first of the ids that a region keeps -/
def histBase : List AW → Nat
  | [] => 0
  | A :: r => match r with
    | [] => A.next
    | _ :: _ => histBase r

def Tm.get (f : Tm) (i : Nat) : AV := T.get AV.undef f i
def upd (f : Tm) (i : Nat) (v : AV) : Tm := T.set AV.undef f i v
def put (f : Tm) (d : Option Tmp) (v : AV) : Tm := match d with
  | some i => upd f i v
  | none => f

structure APE where
  v : AV
  recovered : Bool

inductive AMode where
  | run
  | returning
  | panicking (chain : List APE)

inductive ADef where
  | call (f : FuncId) (cap args : List AV)
  | collected (r : Nat)

inductive ARcv where
  | none
  | avail (v : AV)
  | taken

inductive AItem where
  | code (c : Code)
  | inBlock (id : Nat)
  | inLoop (body : Code)
  | inScope (body : Code)
  | inReg (ops : Array Oper) (l : List (Nat × Oper))
  | inRangeFunc (loop : Nat)
  | endRangeFunc (loop : Nat)
  | beginRound

structure Hd where
  fn : FuncId
  n : Nat
  deferred : Bool
  roundOf : Option Nat

structure St where
  defers : List ADef
  rcv : ARcv
  hist : List AW

structure AF where
  hd : Hd
  tmps : Tm
  todo : List AItem
  st : St
  mode : AMode

/-- run a Sem that asks nothing but the program -/
def pureRun {α : Type} (P : Program) : Sem α → Option α
  | .pure a => some a
  | .program k => pureRun P (k P)
  | .mark _ k => pureRun P k
  | _ => none

def AV.sc : AV → Option Value
  | .bool b => some (.bool b)
  | .int k n => some (.int k n)
  | .float k n => some (.float k n)
  | .complex k a b => some (.complex k a b)
  | _ => none

def AV.ofSc : Value → Option AV
  | .bool b => some (.bool b)
  | .int k n => some (.int k n)
  | .float k n => some (.float k n)
  | .complex k a b => some (.complex k a b)
  | _ => none

def bytesOfStr (s : ByteArray) : List Nat := s.data.toList.map UInt8.toNat

def oneCells : List Value → Bool
  | [] => true
  | v :: l => match v with
    | .agg _ => false
    | .tuple _ => false
    | _ => oneCells l

mutual
def ofConst : Nat → Value → Option AV
  | 0, _ => none
  | d + 1, v => match v with
    | .bool b => some (.bool b)
    | .int k n => some (.int k n)
    | .float k n => some (.float k n)
    | .complex k a b => some (.complex k a b)
    | .string s => some (.str (bytesOfStr s))
    | .pointer none => some (.ptr none)
    | .slice none 0 0 => some (.slice none 0 0 0 true)
    | .map none => some (.map none)
    | .nilFunc => some .nilFunc
    | .nilIface => some .nilIface
    | .agg cs => bif oneCells cs.toList then (ofConsts d cs.toList).map .agg else none
    | .tuple cs => (ofConsts d cs.toList).map .tuple
    | _ => none
def ofConsts : Nat → List Value → Option (List AV)
  | _, [] => some []
  | 0, _ :: _ => none
  | d + 1, v :: vs => match ofConst d v, ofConsts d vs with
    | some a, some l => some (a :: l)
    | _, _ => none
end

def cstFuel : Nat := 5000
def cst (v : Value) : AV := (ofConst cstFuel v).getD .any

def sz (P : Program) (t : TypeId) : Nat := P.cellsOf t
/-- is it a known type of so many cells? -/
def szEq (P : Program) (t : TypeId) (n : Nat) : Bool := match P.info? t with
  | some i => Nat.beq n i.size
  | none => false
def rowD (d : TypeDesc) : Bool := match d with
  | .struct _ => true
  | .array _ _ => true
  | _ => false
/-- is it a type of structs or arrays? none: there is no such type -/
def isAggT (P : Program) (t : TypeId) : Option Bool :=
  match P.underlying t with
  | some d => some (rowD d)
  | none => none

def zeroV (P : Program) (t : TypeId) : Option AV := ((P.info? t).bind (·.zero)).bind (ofConst cstFuel)
/-- the cells of a value of a type -/
def cellsOf (P : Program) (t : TypeId) (x : AV) : Option (List AV) := match x.cells with
  | some cs => bif Nat.beq cs.length (sz P t) then some cs else none
  | none => none
def zeroC (P : Program) (t : TypeId) : Option (List AV) := match zeroV P t with
  | some z => cellsOf P t z
  | none => none

def opd (P : Program) (tmps : Tm) (x : Operand) : AV :=
  match x with
  | .tmp t => Tm.get tmps t
  | .const v => cst v
  | .global g => bif Nat.ble g P.globals.size then .ptr (some (g, 0)) else .any
  | .func f => .func f [] []

def opds (P : Program) (tmps : Tm) : List Operand → List AV
  | [] => []
  | x :: l => opd P tmps x :: opds P tmps l

/-- exactly n of a list, from a place on -/
def cut {α : Type} : List α → Nat → Nat → Option (List α)
  | l, 0, n => takeN l n
  | [], _ + 1, n => takeN [] n
  | _ :: l, k + 1, n => cut l k n
  where
  takeN {α : Type} : List α → Nat → Option (List α)
    | _, 0 => some []
    | [], _ + 1 => none
    | a :: l, n + 1 => match takeN l n with
      | some r => some (a :: r)
      | none => none

/-- a list with others in the place of some, from a place on -/
def paste {α : Type} : List α → Nat → List α → Option (List α)
  | l, 0, vs => over l vs
  | [], _ + 1, _ => none
  | a :: l, k + 1, vs => match paste l k vs with
    | some r => some (a :: r)
    | none => none
  where
  over {α : Type} : List α → List α → Option (List α)
    | l, [] => some l
    | [], _ :: _ => none
    | _ :: l, v :: vs => match over l vs with
      | some r => some (v :: r)
      | none => none

def partA (P : Program) (t : TypeId) (cs : List AV) (off : Nat) : Option AV :=
  match isAggT P t with
  | some true => match cut cs off (sz P t) with
    | some p => some (.agg p)
    | none => none
  | some false => cs[off]?
  | none => none

def wrapF (k : IntKind) (n : Int) : Int :=
  match n with
  | .ofNat m => match k with
    | .i64 => bif Nat.blt m 9223372036854775808 then .ofNat m else IntKind.i64.wrap n
    | .u8 => .ofNat (Nat.mod m 256)
    | .u32 => .ofNat (Nat.mod m 4294967296)
    | .u64 => .ofNat (Nat.mod m 18446744073709551616)
    | k => k.wrap n
  | .negSucc m => match k with
    | .i64 => bif Nat.blt m 9223372036854775808 then .negSucc m else IntKind.i64.wrap n
    | k => k.wrap n

def addI (x y : Int) : Int := match x, y with
  | .ofNat a, .ofNat b => .ofNat (Nat.add a b)
  | x, y => x + y
def subI (x y : Int) : Int := match x, y with
  | .ofNat a, .ofNat b => bif Nat.ble b a then .ofNat (Nat.sub a b) else x - y
  | x, y => x - y
def mulI (x y : Int) : Int := match x, y with
  | .ofNat a, .ofNat b => .ofNat (Nat.mul a b)
  | x, y => x * y
def eqI (x y : Int) : Bool := match x, y with
  | .ofNat a, .ofNat b => Nat.beq a b
  | .negSucc a, .negSucc b => Nat.beq a b
  | _, _ => false
def ltI (x y : Int) : Bool := match x, y with
  | .ofNat a, .ofNat b => Nat.blt a b
  | .negSucc a, .negSucc b => Nat.blt b a
  | .negSucc _, .ofNat _ => true
  | .ofNat _, .negSucc _ => false

def kindEq (a b : IntKind) : Bool := match a, b with
  | .i8, .i8 => true | .i16, .i16 => true | .i32, .i32 => true | .i64, .i64 => true
  | .u8, .u8 => true | .u16, .u16 => true | .u32, .u32 => true | .u64, .u64 => true
  | _, _ => false

/-- bits of numbers that are not below 0, of a kind without sign -/
def unsLim (k : IntKind) : Nat := match k with
  | .u8 => 256
  | .u16 => 65536
  | .u32 => 4294967296
  | .u64 => 18446744073709551616
  | _ => 0
def bitI (P : Program) (t : TypeId) (op : BinOp) (f : Nat → Nat → Nat) (k : IntKind) (x y : Int) : Option AV :=
  match x, y with
  | .ofNat a, .ofNat b => bif Nat.blt a (unsLim k) && Nat.blt b (unsLim k) then some (.int k (.ofNat (f a b)))
      else (pureRun P (binOp op t (.int k x) (.int k y))).bind AV.ofSc
  | x, y => (pureRun P (binOp op t (.int k x) (.int k y))).bind AV.ofSc

def shiftA (P : Program) (t : TypeId) (op : BinOp) (k : IntKind) (x : Int) (k' : IntKind) (y : Int) : Option AV :=
  match op, x, y with
  | .shr, .ofNat a, .ofNat b => some (.int k (.ofNat (Nat.shiftRight a (bif Nat.blt b k.bits then b else k.bits))))
  | .shl, .ofNat a, .ofNat b => some (.int k (wrapF k (.ofNat (Nat.shiftLeft a (bif Nat.blt b k.bits then b else k.bits)))))
  | op, x, y => (pureRun P (binOp op t (.int k x) (.int k' y))).bind AV.ofSc

def intBin : Program → TypeId → BinOp → IntKind → Int → Int → Option AV
  | P, t, .add, k, x, y => some (.int k (wrapF k (addI x y)))
  | P, t, .sub, k, x, y => some (.int k (wrapF k (subI x y)))
  | P, t, .mul, k, x, y => some (.int k (wrapF k (mulI x y)))
  | P, t, .eql, k, x, y => some (.bool (eqI x y))
  | P, t, .neq, k, x, y => some (.bool (!eqI x y))
  | P, t, .lss, k, x, y => some (.bool (ltI x y))
  | P, t, .leq, k, x, y => some (.bool (!ltI y x))
  | P, t, .gtr, k, x, y => some (.bool (ltI y x))
  | P, t, .geq, k, x, y => some (.bool (!ltI x y))
  | P, t, .and, k, x, y => bitI P t .and Nat.land k x y
  | P, t, .or, k, x, y => bitI P t .or Nat.lor k x y
  | P, t, .xor, k, x, y => bitI P t .xor Nat.xor k x y
  | P, t, op, k, x, y => (pureRun P (binOp op t (.int k x) (.int k y))).bind AV.ofSc

def strLt : List Nat → List Nat → Bool
  | _, [] => false
  | [], _ :: _ => true
  | a :: x, b :: y => Nat.blt a b || (Nat.beq a b && strLt x y)
def strEq : List Nat → List Nat → Bool
  | [], [] => true
  | [], _ :: _ => false
  | _ :: _, [] => false
  | a :: x, b :: y => bif Nat.beq a b then strEq x y else false

def strBin : BinOp → List Nat → List Nat → Option AV
  | .add, x, y => bif Nat.ble (Nat.add x.length y.length) 4611686018427387904 then some (.str (x ++ y)) else none
  | .eql, x, y => some (.bool (strEq x y))
  | .neq, x, y => some (.bool (!strEq x y))
  | .lss, x, y => some (.bool (strLt x y))
  | .leq, x, y => some (.bool (strLt x y || strEq x y))
  | .gtr, x, y => some (.bool (!(strLt x y || strEq x y)))
  | .geq, x, y => some (.bool (!strLt x y))
  | _, x, y => none

mutual
/-- equality of values of a type of bools, integers, texts, and structs and arrays of them -/
def eqP (P : Program) : Nat → TypeId → AV → AV → Option Bool
  | 0, _, _, _ => none
  | d + 1, t, x, y => match x with
    | .bool a => match y with
      | .bool b => match P.underlying t with | some .bool => some (a == b) | _ => none
      | _ => none
    | .int j a => match y with
      | .int k b => match P.underlying t with | some (.int _) => bif kindEq j k then some (eqI a b) else none | _ => none
      | _ => none
    | .str a => match y with
      | .str b => match P.underlying t with | some .string => some (strEq a b) | _ => none
      | _ => none
    | .agg a => match y with
      | .agg b => match P.underlying t with
        | some (.struct fs) => bif P.stoodInHeld t then none else eqFs P d fs.toList a b
        | some (.array n e) => match P.info? e with
          | some _ => eqEs P d e n 0 a b
          | none => none
        | _ => none
      | _ => none
    | _ => none
def eqFs (P : Program) : Nat → List Field → List AV → List AV → Option Bool
  | _, [], _, _ => some true
  | 0, _ :: _, _, _ => none
  | d + 1, f :: r, a, b => bif f.name == "_" then none else
    match partA P f.type a f.offset with
    | some x => match partA P f.type b f.offset with
      | some y => match eqP P d f.type x y with
        | some true => eqFs P d r a b
        | some false => some false
        | none => none
      | none => none
    | none => none
def eqEs (P : Program) : Nat → TypeId → Nat → Nat → List AV → List AV → Option Bool
  | _, _, 0, _, _, _ => some true
  | 0, _, _ + 1, _, _, _ => none
  | d + 1, e, n + 1, i, a, b =>
    match partA P e a (Nat.mul i (sz P e)) with
    | some x => match partA P e b (Nat.mul i (sz P e)) with
      | some y => match eqP P d e x y with
        | some true => eqEs P d e n (Nat.succ i) a b
        | some false => some false
        | none => none
      | none => none
    | none => none
end

def aggEq (P : Program) (t : TypeId) (x y : AV) : Option Bool :=
  bif P.eqGuardType P.depth t then none else eqP P 100 t x y

def eqA : Program → TypeId → AV → AV → Option Bool
  | P, t, .bool a, y => match y with | .bool b => some (a == b) | _ => none
  | P, t, .ptr none, y => match y with | .ptr b => some b.isNone | _ => none
  | P, t, .ptr (some a), y => match y with
    | .ptr none => some false
    | .ptr (some b) => match P.underlying t with
      | some (.pointer e) => bif !Nat.beq (sz P e) 0 && Nat.beq a.1 b.1 then some (Nat.beq a.2 b.2) else none
      | _ => none
    | _ => none
  | P, t, .slice none _ _ _ _, y => match y with | .slice b _ _ _ _ => some b.isNone | _ => none
  | P, t, .slice (some _) _ _ _ _, y => match y with | .slice none _ _ _ _ => some false | _ => none
  | P, t, .map none, y => match y with | .map b => some b.isNone | _ => none
  | P, t, .map (some _), y => match y with | .map none => some false | _ => none
  | P, t, .nilFunc, y => match y with | .nilFunc => some true | .func _ _ _ => some false | _ => none
  | P, t, .func _ _ _, y => match y with | .nilFunc => some false | _ => none
  | P, t, .nilIface, y => match y with | .iface _ _ => some false | _ => none
  | P, t, .iface _ _, y => match y with | .nilIface => some false | _ => none
  | P, t, .agg a, y => aggEq P t (.agg a) y
  | P, t, _, y => none

/-- does the type fit what is held against one another? -/
def eqT (P : Program) (t : TypeId) (x : AV) : Bool :=
  match x, P.underlying t with
  | .bool _, some .bool => true
  | .ptr _, some (.pointer _) => true
  | .slice _ _ _ _ _, some (.slice _) => true
  | .map _, some (.map _ _) => true
  | .nilFunc, some (.func _ _ _) => true
  | .func _ _ _, some (.func _ _ _) => true
  | .nilIface, some (.interface _) => true
  | .iface _ _, some (.interface _) => true
  | .agg _, some (.struct _) => true
  | .agg _, some (.array _ _) => true
  | _, _ => false

def isConstOp : Operand → Bool
  | .const _ => true
  | _ => false

def binEq (P : Program) (t : TypeId) (c : Bool) (x y : AV) : Option Bool :=
  bif eqT P t x then
    match x, y with
    | .nilIface, .nilIface => bif c then some true else none
    | x, y => eqA P t x y
  else none

def binA (P : Program) (op : BinOp) (t : TypeId) (c : Bool) (x y : AV) : Option AV :=
  match x with
  | .int k a => match y with
    | .int k' b => match op with
      | .shl => shiftA P t .shl k a k' b
      | .shr => shiftA P t .shr k a k' b
      | op => bif kindEq k k' then intBin P t op k a b else none
    | _ => none
  | .str a => match y with
    | .str b => strBin op a b
    | _ => none
  | .float k a => match y with
    | .float k' b => (pureRun P (binOp op t (.float k a) (.float k' b))).bind AV.ofSc
    | _ => none
  | .complex k a c => match y with
    | .complex k' b d => (pureRun P (binOp op t (.complex k a c) (.complex k' b d))).bind AV.ofSc
    | _ => none
  | x => match op with
    | .eql => (binEq P t c x y).map .bool
    | .neq => (binEq P t c x y).map fun b => .bool !b
    | _ => none

/-- the type of a row whose place in its block is not known -/
def noTy : TypeId := 1073741824

/-- what an operation comes to -/
inductive Rq where
  | seen (t : TypeId) (b off : Nat)
  | shown (u : TypeId) (b off : Nat)
  | load (t : TypeId) (b off : Nat)
  | lookup (t : TypeId) (m : Option Nat) (k : AV) (ok : Bool)
  | mapLen (m : Nat)
  | bytes (a : Option (Nat × Nat)) (len : Nat)
  | arr (v : AV) (b n : Nat)

inductive Tgt where
  | fn (f : FuncId) (args : List AV)
  | yield (l : Nat) (args : List AV)

inductive OpRes where
  | val (v : AV)
  | rd (q : Rq)
  | al (ob : AObj) (v : Nat → AV)
  | ef (v : AV) (A : AW)
  | call (t : Tgt)
  | dfr (d : ADef)
  | pan (v : AV)
  | rcvr
  | pick (n : Nat) (k : Nat → AV × AW)
  | bad

def OpRes.ofVal : Option AV → OpRes
  | some v => .val v
  | none => .bad
def OpRes.ofEf : Option (AV × AW) → OpRes
  | some p => .ef p.1 p.2
  | none => .bad

def asNat (x : AV) : Option Nat :=
  match x with
  | .int _ n => match n with
    | .ofNat n => some n
    | _ => none
  | _ => none

def hConv : Program → TypeId → TypeId → AV → OpRes
  | P, src, dst, .int k0 n => match P.underlying dst with
    | some (.int k) => .val (.int k (wrapF k n))
    | some .string => .val (.str (bytesOfStr (Utf8.encode n)))
    | some (.float _) => match (AV.int k0 n).sc with
      | some v => .ofVal ((pureRun P (convert src dst v)).bind AV.ofSc)
      | none => .bad
    | _ => .bad
  | P, src, dst, .str s => match P.underlying dst with
    | some .string => .val (.str s)
    | some (.slice e) => match P.underlying e with
      | some (.int .u8) => bif Nat.beq (sz P e) 1 && Nat.ble s.length 35184372088832 then
          .al (.cells e (s.map fun n => .int .u8 (Int.ofNat n)) false none) (fun b => .slice (some (b, 0)) s.length s.length 1 false) else .bad
      | _ => .bad
    | _ => .bad
  | P, src, dst, .ptr a => match P.underlying src, P.underlying dst with
    | some .unsafePointer, some (.pointer u) => match a with
      | some (b, off) => .rd (.shown u b off)
      | none => .val (.ptr none)
    | some (.pointer t), some .unsafePointer => match a with
      | some (b, off) => .rd (.seen t b off)
      | none => .val (.ptr none)
    | _, _ => .bad
  | P, src, dst, .slice a len _ z _ => match P.underlying src, P.underlying dst with
    | some (.slice e), some .string => match P.underlying e with
      | some (.int .u8) => bif a.isNone || Nat.beq z 1 then .rd (.bytes a len) else .bad
      | _ => .bad
    | _, _ => .bad
  | P, src, dst, x => match x.sc with
    | some v => .ofVal ((pureRun P (convert src dst v)).bind AV.ofSc)
    | none => .bad

/-- bounds of a slice expression -/
def bMax (cap : Nat) : Option AV → Option Nat
  | none => some cap
  | some v => match asNat v with
    | some m => bif Nat.ble m cap then some m else none
    | none => none
def bHigh (len m : Nat) (mx : Bool) : Option AV → Option Nat
  | none => bif mx then none else some len
  | some v => match asNat v with
    | some h => bif Nat.ble h m then some h else none
    | none => none
def bLow (h : Nat) : Option AV → Option Nat
  | none => some 0
  | some v => match asNat v with
    | some l => bif Nat.ble l h then some l else none
    | none => none
def boundsA (len cap : Nat) (low high max : Option AV) : Option (Nat × Nat × Nat) :=
  match bMax cap max with
  | none => none
  | some m => match bHigh len m max.isSome high with
    | none => none
    | some h => match bLow h low with
      | none => none
      | some l => some (l, h, m)

def hSlice : Program → TypeId → AV → Option AV → Option AV → Option AV → Option AV
  | P, t, .str s, low, high, max => match P.underlying t with
    | some .string => match max with
      | none => match boundsA s.length s.length low high none with
        | some (l, h, _) => match cut s l (Nat.sub h l) with
          | some r => some (.str r)
          | none => none
        | none => none
      | some _ => none
    | _ => none
  | P, t, .slice none _ _ _ _, low, high, max => match P.underlying t with
    | some (.slice e) => bif szEq P e (sz P e) then match boundsA 0 0 low high max with
        | some _ => some (.slice none 0 0 0 true)
        | none => none
      else none
    | _ => none
  | P, t, .slice (some (b, off)) len cap z ex, low, high, max => match P.underlying t with
    | some (.slice e) => bif szEq P e z then
        match boundsA len cap low high max with
        | some (l, h, m) => some (.slice (some (b, Nat.add off (Nat.mul l z))) (Nat.sub h l) (Nat.sub m l) z (ex || max.isSome))
        | none => none
      else none
    | _ => none
  | P, t, _, low, high, max => none
def hSliceArr (P : Program) (t : TypeId) (b off : Nat) (low high max : Option AV) : OpRes := match P.underlying t with
  | some (.array n e) => bif szEq P e (sz P e) then match boundsA n n low high max with
      | some (l, h, m) => .rd (.arr (.slice (some (b, Nat.add off (Nat.mul l (sz P e)))) (Nat.sub h l) (Nat.sub m l) (sz P e) true) b (Nat.add off (Nat.mul n (sz P e))))
      | none => .bad
    else .bad
  | _ => .bad
def hSliceO : Program → TypeId → AV → Option AV → Option AV → Option AV → OpRes
  | P, t, .ptr (some (b, off)), low, high, max => hSliceArr P t b off low high max
  | P, t, x, low, high, max => .ofVal (hSlice P t x low high max)

def fill (place : Nat → Option (Nat × Nat)) : List AV → List (Nat × AV) → Option (List AV)
  | cells, [] => some cells
  | cells, (i, v) :: rest => match place i with
    | none => none
    | some (off, size) => match v.cells with
      | some vs => bif Nat.beq vs.length size then
          match paste cells off vs with
          | some cs => fill place cs rest
          | none => none
        else none
      | none => none

def parts (P : Program) (tmps : Tm) : List (Nat × Operand) → List (Nat × AV)
  | [] => []
  | (i, x) :: l => (i, opd P tmps x) :: parts P tmps l

def fieldPlaceA (P : Program) (fs : Array Field) (i : Nat) : Option (Nat × Nat) :=
  match fs[i]? with
  | some f => some (f.offset, sz P f.type)
  | none => none

def knownFs (P : Program) : List Field → Bool
  | [] => true
  | f :: l => szEq P f.type (sz P f.type) && knownFs P l
def hBuild (P : Program) (t : TypeId) (ps : List (Nat × AV)) : Option AV :=
  match zeroC P t with
  | some z => match P.underlying t with
    | some (.struct fs) => bif knownFs P fs.toList then (fill (fieldPlaceA P fs) z ps).map .agg else none
    | some (.array _ e) => bif szEq P e (sz P e) then (fill (fun i => some (Nat.mul i (sz P e), sz P e)) z ps).map .agg else none
    | _ => none
  | none => none

def hPick (c a b : AV) : Option AV := match c with
  | .bool true => some a
  | .bool false => some b
  | _ => none

def hNil (x : AV) : Option AV := match x with
  | .ptr (some _) => some x
  | .func _ _ _ => some x
  | .iface _ _ => some x
  | _ => none

def hUn (P : Program) (op : UnOp) (x : AV) : Option AV := match x with
  | .bool b => match op with
    | .not => some (.bool !b)
    | _ => none
  | x => match x.sc with
    | some v => (pureRun P (Op.unary op v)).bind AV.ofSc
    | none => none

def hIface (P : Program) (t : TypeId) (x : AV) : Option AV := match P.underlying t with
  | some (.interface _) => none
  | some _ => some (.iface t x)
  | none => none

def hFunc (fn : Fn) (first cap : List AV) : Option AV := match fn with
  | .func f => some (.func f first cap)
  | _ => none

def hFieldAddr (P : Program) (s : TypeId) (x : AV) (f : Nat) : Option AV := match x with
  | .ptr (some (b, off)) => match P.underlying s with
    | some (.struct fs) => match fs[f]? with
      | some fd => bif Nat.beq (sz P fd.type) 0 then none else some (.ptr (some (b, Nat.add off fd.offset)))
      | none => none
    | _ => none
  | _ => none

def hField (P : Program) (t : TypeId) (x : AV) (f : Nat) : Option AV := match x with
  | .agg cs => match P.underlying t with
    | some (.struct fs) => match fs[f]? with
      | some fd => partA P fd.type cs fd.offset
      | none => none
    | _ => none
  | _ => none

def hIndexAddr (P : Program) (t : TypeId) (x i : AV) : Option AV := match asNat i with
  | none => none
  | some i => match x with
    | .slice (some (b, off)) len _ z _ => match P.underlying t with
      | some (.slice e) => bif Nat.blt i len && szEq P e z then some (.ptr (some (b, Nat.add off (Nat.mul i z)))) else none
      | _ => none
    | .ptr (some (b, off)) => match P.underlying t with
      | some (.array n e) => bif Nat.blt i n && szEq P e (sz P e) then some (.ptr (some (b, Nat.add off (Nat.mul i (sz P e))))) else none
      | _ => none
    | _ => none

def hIndex (P : Program) (t : TypeId) (x i : AV) : Option AV := match asNat i with
  | none => none
  | some i => match x with
    | .str s => match P.underlying t with
      | some .string => match s[i]? with
        | some b => some (.int .u8 (Int.ofNat b))
        | none => none
      | _ => none
    | .agg cs => match P.underlying t with
      | some (.array n e) => bif Nat.blt i n && szEq P e (sz P e) then partA P e cs (Nat.mul i (sz P e)) else none
      | _ => none
    | _ => none

def hExtract (x : AV) (i : Nat) : Option AV := match x with
  | .tuple vs => vs[i]?
  | _ => none

def failA (P : Program) (t : TypeId) (ok : Bool) : Option AV :=
  bif ok then match zeroV P t with
    | some z => some (.tuple [z, .bool false])
    | none => none
  else none
def holdA (ok : Bool) (v : AV) : AV := bif ok then .tuple [v, .bool true] else v
def hAssert (P : Program) (t : TypeId) (ok : Bool) (x : AV) : Option AV := match P.underlying t with
  | some (.interface want) => match x with
    | .iface d v => match P.info? d with
      | some inf => match Instr.missingMethod want inf.methods with
        | none => some (holdA ok (.iface d v))
        | some _ => failA P t ok
      | none => none
    | .nilIface => failA P t ok
    | _ => none
  | some _ => match x with
    | .iface d v => bif Nat.beq d t then some (holdA ok v) else failA P t ok
    | .nilIface => failA P t ok
    | _ => none
  | none => none

def asBytes : List AV → Option (List Nat)
  | [] => some []
  | x :: r => match x with
    | .int .u8 n => match n with
      | .ofNat n => bif Nat.blt n 256 then match asBytes r with
          | some l => some (n :: l)
          | none => none
        else none
      | _ => none
    | _ => none

def cellsAt (A : AW) (b off n : Nat) : Option (List AV) :=
  match A.get b with
  | some (.cells _ cs _ _) => cut cs off n
  | _ => none

def findA (P : Program) (kt : TypeId) (k : AV) : List (AV × AV × Nat) → Nat → Option (Option (Nat × AV))
  | [], _ => some none
  | e :: es, i => match eqP P 100 kt k e.1 with
    | some true => some (some (i, e.2.1))
    | some false => findA P kt k es (Nat.succ i)
    | none => none

mutual
/-- a value of a type that may be a key -/
def keyP (P : Program) : Nat → TypeId → AV → Bool
  | 0, _, _ => false
  | d + 1, t, x => match P.underlying t with
    | some .bool => match x with | .bool _ => true | _ => false
    | some (.int _) => match x with | .int _ _ => true | _ => false
    | some .string => match x with | .str _ => true | _ => false
    | some (.struct fs) => match x with | .agg cs => keyFs P d fs.toList cs | _ => false
    | _ => false
def keyFs (P : Program) : Nat → List Field → List AV → Bool
  | _, [], _ => true
  | 0, _ :: _, _ => false
  | d + 1, f :: r, a => match partA P f.type a f.offset with
    | some x => keyP P d f.type x && keyFs P d r a
    | none => false
end
def goodKey (P : Program) (t : TypeId) (k : AV) : Bool := keyP P 100 t k

def okA (ok : Bool) (v : AV) (b : Bool) : AV := bif ok then .tuple [v, .bool b] else v

def lookA (P : Program) (A : AW) (t : TypeId) (m : Option Nat) (k : AV) (ok : Bool) : Option AV :=
  match P.underlying t with
  | some (.map kt et) => bif goodKey P kt k then
      match m with
      | none => match zeroV P et with
        | some z => some (okA ok z false)
        | none => none
      | some r => match A.get r with
        | some (.map es _) => match findA P kt k es 0 with
          | some (some (_, v)) => some (okA ok v true)
          | some none => match zeroV P et with
            | some z => some (okA ok z false)
            | none => none
          | none => none
        | _ => none
    else none
  | _ => none

def loadA (P : Program) (A : AW) (t : TypeId) (b off : Nat) : Option AV :=
  match A.get b with
  | some (.cells _ cs _ _) => match isAggT P t with
    | some true => match cut cs off (sz P t) with
      | some l => some (.agg l)
      | none => none
    | some false => cs[off]?
    | none => none
  | _ => none

def evalRq (P : Program) (A : AW) (q : Rq) : Option AV :=
  match q with
  | .seen t b off => match A.get b with
    | some (.cells _ cs _ _) => bif Nat.blt off cs.length && Nat.blt 0 (sz P t) then some (.ptr (some (b, off))) else none
    | _ => none
  | .shown u b off => match A.get b with
    | some (.cells ty cs _ _) => bif szEq P u (sz P u) && (!Nat.beq ty noTy && liesAt P P.depth ty (Nat.div cs.length (sz P ty)) off u 1) then some (.ptr (some (b, off))) else none
    | _ => none
  | .load t b off => loadA P A t b off
  | .lookup t m k ok => lookA P A t m k ok
  | .mapLen m => match A.get m with
    | some (.map es _) => some (.int .i64 (Int.ofNat es.length))
    | _ => none
  | .bytes a len => match a with
    | none => some (.str [])
    | some (b, off) => match cellsAt A b off len with
      | some l => match asBytes l with
        | some s => some (.str s)
        | none => none
      | none => none
  | .arr v b n => match A.get b with
    | some (.cells _ cs _ _) => bif Nat.ble n cs.length then some v else none
    | _ => none

def AW.kill (A : AW) (s : Option Nat) : AW := match s with
  | none => A
  | some b => A.set b none

def putCells (A : AW) (b off : Nat) (vs : List AV) : Option AW :=
  match A.get b with
  | some (.cells ty cs ro sib) => bif ro then none else match paste cs off vs with
    | some cs' => some ((A.kill sib).set b (some (.cells ty cs' false none)))
    | none => none
  | _ => none

def reps (n : Nat) (l : List AV) : List AV := match n with
  | 0 => []
  | n + 1 => l ++ reps n l

def hAlloc (P : Program) (t : TypeId) : OpRes := match zeroC P t with
  | some z => .al (.cells t z false none) fun b => .ptr (some (b, 0))
  | none => .bad
def hBox (P : Program) (t : TypeId) (x : AV) : OpRes := match cellsOf P t x with
  | some cs => .al (.cells t cs false none) fun b => .ptr (some (b, 0))
  | none => .bad
def hBuildSlice (P : Program) (t : TypeId) (len : Nat) (ps : List (Nat × AV)) : OpRes := match P.underlying t with
  | some (.slice e) => bif Nat.beq (sz P e) 0 || Nat.blt 16777216 (Nat.mul len (sz P e)) then .bad else
    match zeroC P e with
    | some z => match fill (fun i => some (Nat.mul i (sz P e), sz P e)) (reps len z) ps with
      | some cs => .al (.cells e cs false none) fun b => .slice (some (b, 0)) len len (sz P e) true
      | none => .bad
    | none => .bad
  | _ => .bad
def hMakeSlice (P : Program) (t : TypeId) (l c : AV) : OpRes := match P.underlying t with
  | some (.slice e) => match asNat l with
    | some l => match asNat c with
      | some c => bif Nat.ble l c && Nat.ble (Nat.mul (P.bytesOf e) c) 281474976710656 && Nat.ble c 281474976710656 && !Nat.beq (sz P e) 0 then
          match zeroC P e with
          | some z => .al (.cells e (reps c z) false none) fun b => .slice (some (b, 0)) l c (sz P e) true
          | none => .bad
        else .bad
      | none => .bad
    | none => .bad
  | _ => .bad
def hMakeMap (r : Option AV) : OpRes := match r with
  | none => .al (.map [] 0) fun b => .map (some b)
  | some _ => .bad
def hRange (P : Program) (A : AW) (t : TypeId) (x : AV) : OpRes := match x with
  | .str s => match P.underlying t with
    | some .string => .al (.siter s 0) fun b => .ptr (some (b, 0))
    | _ => .bad
  | .map none => match P.underlying t with
    | some (.map _ _) => .al (.miter none 0 [] 0) fun b => .ptr (some (b, 0))
    | _ => .bad
  | .map (some m) => match P.underlying t with
    | some (.map _ _) => match A.get m with
      | some (.map _ clock) => .ef (.ptr (some (A.next, 0))) (A.push (.miter (some m) clock [] clock))
      | _ => .bad
    | _ => .bad
  | _ => .bad

def growOk (need bytes : Nat) : Bool := Nat.ble (Nat.mul (Nat.add (Nat.mul 2 need) 2048) (Nat.succ bytes)) 281474976710656

/-- the type of a row that append has made, in place or anew -/
def rowTy (e ty off : Nat) : TypeId := bif Nat.beq e ty && Nat.beq off 0 then e else noTy

/-- append behind a slice whose cells are full; c: its block -/
def growA (P : Program) (e : TypeId) (A : AW) (b off len n : Nat) (ex : Bool) (new : List AV) (ty : TypeId) (cs : List AV) (ro : Bool) (sib : Option Nat) : Option (AV × AW) :=
  match cut cs off (Nat.mul len (sz P e)) with
  | none => none
  | some old =>
    bif ex then some (.slice (some (A.next, 0)) (Nat.add len n) (Nat.add len n) (sz P e) false, A.push (.cells e (old ++ new) false none))
    else bif ro then none
    else bif Nat.beq (Nat.add off (Nat.mul len (sz P e))) cs.length then
      some (.slice (some (A.next, 0)) (Nat.add len n) (Nat.add len n) (sz P e) false,
        ((A.kill sib).set b (some (.cells ty cs false (some A.next)))).push (.cells (rowTy e ty off) (old ++ new) false (some b)))
    else
      some (.slice (some (A.next, 0)) (Nat.add len n) (Nat.add len n) (sz P e) false,
        ((A.kill sib).set b none).push (.cells (rowTy e ty off) (old ++ new) false none))

def appendA (P : Program) (e : TypeId) (A : AW) (s : AV) (n : Nat) (new : List AV) : Option (AV × AW) :=
  match s with
  | .slice none _ _ _ _ =>
    bif Nat.beq n 0 then some (.slice none 0 0 0 true, A)
    else bif growOk n (P.bytesOf e) && (zeroC P e).isSome then
      some (.slice (some (A.next, 0)) n n (sz P e) false, A.push (.cells e new false none))
    else none
  | .slice (some (b, off)) len cap z ex =>
    bif !Nat.beq z (sz P e) then none else
    bif Nat.ble (Nat.add len n) cap then
      bif Nat.beq n 0 then some (s, A) else
      match putCells A b (Nat.add off (Nat.mul len z)) new with
      | some A' => some (.slice (some (b, off)) (Nat.add len n) cap z ex, A')
      | none => none
    else bif growOk (Nat.add len n) (P.bytesOf e) && (zeroC P e).isSome then
      match A.get b with
      | some (.cells ty cs ro sib) => growA P e A b off len n ex new ty cs ro sib
      | _ => none
    else none
  | _ => none

def byteCells (s : List Nat) : List AV := s.map fun x => .int .u8 (Int.ofNat x)
def srcCells (A : AW) (size n : Nat) (x : AV) : Option (List AV) := match x with
  | .slice none _ _ _ _ => bif Nat.beq n 0 then some [] else none
  | .slice (some (b, off)) _ _ z _ => bif Nat.beq z size then cellsAt A b off (Nat.mul n size) else none
  | .str s => bif Nat.beq size 1 then match cut s 0 n with
      | some s => some (byteCells s)
      | none => none
    else none
  | _ => none

def lenA (x : AV) : Option Nat := match x with
  | .slice none _ _ _ _ => some 0
  | .slice (some _) n _ _ _ => some n
  | .str s => some s.length
  | _ => none

def hStore (P : Program) (A : AW) (t : TypeId) (a x : AV) : Option (AV × AW) := match a with
  | .ptr (some (b, off)) => match cellsOf P t x with
    | some cs => bif szEq P t cs.length then match putCells A b off cs with
        | some A' => some (.undef, A')
        | none => none
      else none
    | none => none
  | _ => none

def modAt (es : List (AV × AV × Nat)) (i : Nat) (f : AV × AV × Nat → AV × AV × Nat) : List (AV × AV × Nat) := match es with
  | [] => []
  | e :: es => match i with
    | 0 => f e :: es
    | i + 1 => e :: modAt es i f

/-- a key of bools, integers and texts that is just that one -/
def simpleKey : Nat → AV → Bool
  | 0, _ => false
  | d + 1, v => match v with
    | .bool _ => true
    | .int _ _ => true
    | .str _ => true
    | .agg cs => cs.all (simpleKey d)
    | _ => false
def stays (k old : AV) : Bool := simpleKey 10 k && AV.beq k old
def staysAt (es : List (AV × AV × Nat)) (i : Nat) (k : AV) : Bool := match es[i]? with
  | some e => stays k e.1
  | none => false

def hMapUpdate (P : Program) (A : AW) (t : TypeId) (m k x : AV) : Option (AV × AW) := match m with
  | .map (some r) => match P.underlying t with
    | some (.map kt _) => bif goodKey P kt k then match A.get r with
        | some (.map es clock) => match findA P kt k es 0 with
          | some (some (i, _)) => bif staysAt es i k then some (.undef, A.set r (some (.map (modAt es i fun e => (e.1, x, e.2.2)) clock))) else none
          | some none => some (.undef, A.set r (some (.map (es ++ [(k, x, clock)]) (Nat.succ clock))))
          | none => none
        | _ => none
      else none
    | _ => none
  | _ => none

def hMapEntry (P : Program) (A : AW) (t : TypeId) (m k : AV) : Option (AV × AW) := match m with
  | .map (some r) => match P.underlying t with
    | some (.map kt et) => bif goodKey P kt k then match A.get r with
        | some (.map es clock) => match findA P kt k es 0 with
          | some (some (i, v)) => match es[i]? with
            | some e => bif stays k e.1 then some (.tuple [v, .int .i64 (Int.ofNat e.2.2)], A) else none
            | none => none
          | some none => match zeroV P et with
            | some z => some (.tuple [z, .int .i64 (Int.ofNat clock)], A.set r (some (.map (es ++ [(k, z, clock)]) (Nat.succ clock))))
            | none => none
          | none => none
        | _ => none
      else none
    | _ => none
  | _ => none

def bornAt (b : Nat) : List (AV × AV × Nat) → Nat → Option Nat
  | [], _ => none
  | e :: es, i => bif Nat.beq e.2.2 b then some i else bornAt b es (Nat.succ i)

def hEntryStore (A : AW) (m s x : AV) : Option (AV × AW) := match m with
  | .map (some r) => match asNat s with
    | some born => match A.get r with
      | some (.map es clock) => match bornAt born es 0 with
        | some i => some (.undef, A.set r (some (.map (modAt es i fun e => (e.1, x, e.2.2)) clock)))
        | none => none
      | _ => none
    | none => none
  | _ => none

def hEntry (A : AW) (it : AV) : Option (AV × AW) := match it with
  | .ptr (some (r, 0)) => match A.get r with
    | some (.miter (some m) _ seen stepped) => match seen with
      | stamp :: _ => match A.get m with
        | some (.map es clock) => bif Nat.beq clock stepped then
            match bornAt stamp es 0 with
            | some i => match es[i]? with
              | some e => some (.tuple [e.1, e.2.1], A)
              | none => none
            | none => none
          else none
        | _ => none
      | [] => none
    | _ => none
  | _ => none

def hNextStr (A : AW) (it : AV) : Option (AV × AW) := match it with
  | .ptr (some (r, 0)) => match A.get r with
    | some (.siter s pos) =>
      bif Nat.blt pos s.length then
        match Utf8.decode ⟨((s.map Nat.toUInt8).toArray)⟩ pos with
        | (c, w) => some (.tuple [.bool true, .int .i64 (Int.ofNat pos), .int .i32 c], A.set r (some (.siter s (Nat.add pos w))))
      else some (.tuple [.bool false], A)
    | _ => none
  | _ => none

def leftA (es : List (AV × AV × Nat)) (seen : List Nat) : List (AV × AV × Nat) := es.filter fun e => !seen.contains e.2.2
def candOf (old new : List (AV × AV × Nat)) : List (Option (AV × AV × Nat)) := (bif old.isEmpty then [none] else []) ++ (old ++ new).map some
/-- the entries that a step of a loop over a map may come to; none: the loop's end -/
def candA (es : List (AV × AV × Nat)) (since : Nat) (seen : List Nat) : List (Option (AV × AV × Nat)) :=
  candOf ((leftA es seen).filter fun e => Nat.blt e.2.2 since) ((leftA es seen).filter fun e => !Nat.blt e.2.2 since)
def pickA (A : AW) (r m since clock : Nat) (seen : List Nat) (c : Option (Option (AV × AV × Nat))) : AV × AW := match c with
  | some (some e) => (.tuple [.bool true, e.1, e.2.1], A.set r (some (.miter (some m) since (e.2.2 :: seen) clock)))
  | _ => (.tuple [.bool false], A)

def nextMap (A : AW) (it : AV) : OpRes := match it with
  | .ptr (some (r, 0)) => match A.get r with
    | some (.miter none _ _ _) => .pick 1 fun _ => (.tuple [.bool false], A)
    | some (.miter (some m) since seen last) => match A.get m with
      | some (.map es clock) =>
        bif !seen.isEmpty && !es.isEmpty && es.all (fun e => Nat.ble last e.2.2) then .bad else
        .pick (candA es since seen).length fun i => pickA A r m since clock seen (candA es since seen)[i]?
      | _ => .bad
    | _ => .bad
  | _ => .bad

def hCopy (P : Program) (A : AW) (e : TypeId) (s x : AV) : Option (AV × AW) := match lenA x with
  | none => none
  | some sl => match s with
    | .slice none _ _ _ _ => some (.int .i64 0, A)
    | .slice (some (b, off)) dl _ z _ => bif Nat.beq z (sz P e) then
        match srcCells A (sz P e) (Nat.min sl dl) x with
        | some [] => some (.int .i64 (Int.ofNat (Nat.min sl dl)), A)
        | some new => match putCells A b off new with
          | some A' => some (.int .i64 (Int.ofNat (Nat.min sl dl)), A')
          | none => none
        | none => none
      else none
    | _ => none

def hDelete (P : Program) (A : AW) (kt : TypeId) (m k : AV) : Option (AV × AW) := match m with
  | .map (some r) => bif goodKey P kt k then match A.get r with
      | some (.map es clock) => match findA P kt k es 0 with
        | some (some (i, _)) => some (.tuple [], A.set r (some (.map (es.eraseIdx i) clock)))
        | some none => some (.tuple [], A)
        | none => none
      | _ => none
    else none
  | _ => none

def hClear (P : Program) (A : AW) (t : TypeId) (x : AV) : Option (AV × AW) := match x with
  | .map (some r) => match A.get r with
    | some (.map _ clock) => some (.tuple [], A.set r (some (.map [] clock)))
    | _ => none
  | .slice none _ _ _ _ => some (.tuple [], A)
  | .slice (some (b, off)) n _ z _ => bif Nat.beq n 0 then some (.tuple [], A) else match P.underlying t with
    | some (.slice e) => bif Nat.beq z (sz P e) then
        match zeroC P e with
        | some zv => match putCells A b off (reps n zv) with
          | some A' => some (.tuple [], A')
          | none => none
        | none => none
      else none
    | _ => none
  | _ => none

def hUnsafeString (P : Program) (A : AW) (t : TypeId) (p n : AV) : Option (AV × AW) := match asNat n with
  | none => none
  | some n => match p with
    | .ptr none => bif Nat.beq n 0 then some (.str [], A) else none
    | .ptr (some (b, off)) => bif Nat.beq n 0 then some (.str [], A) else match P.underlying t with
      | some (.pointer e) => match A.get b with
        | some (.cells ty cs ro sib) => bif ro || Nat.beq ty noTy || !liesAt P P.depth ty (Nat.div cs.length (sz P ty)) off e n || !Nat.ble n 4611686018427387904 then none else match cut cs off n with
          | some l => match asBytes l with
            | some s => some (.str s, (A.kill sib).set b none)
            | none => none
          | none => none
        | _ => none
      | _ => none
    | _ => none

def hLen (x : AV) : OpRes := match x with
  | .str s => .val (.int .i64 (Int.ofNat s.length))
  | .slice none _ _ _ _ => .val (.int .i64 0)
  | .slice (some _) n _ _ _ => .val (.int .i64 (Int.ofNat n))
  | .map none => .val (.int .i64 0)
  | .map (some m) => .rd (.mapLen m)
  | _ => .bad
def lenT (P : Program) (t : TypeId) (x : AV) : Bool := match x, P.underlying t with
  | .str _, some .string => true
  | .slice _ _ _ _ _, some (.slice _) => true
  | .map _, some (.map _ _) => true
  | _, _ => false
def hCap (x : AV) : Option AV := match x with
  | .slice none _ _ _ _ => some (.int .i64 0)
  | .slice (some _) _ c _ ex => bif ex then some (.int .i64 (Int.ofNat c)) else none
  | _ => none

/-- does append take a slice or a text? -/
def appT (P : Program) (ts : Array TypeId) : Bool := match ts[1]? with
  | none => false
  | some t => match P.underlying t with
    | some (.slice _) => true
    | some .string => true
    | _ => false

def hBuiltin (P : Program) (A : AW) (b : Builtin) (ts : Array TypeId) (args : List AV) : OpRes :=
  match ts[0]? with
  | none => match b with
    | .recover => .rcvr
    | _ => .bad
  | some t => match args with
    | [x] => match b with
      | .len => bif lenT P t x then hLen x else .bad
      | .cap => match P.underlying t with | some (.slice _) => .ofVal (hCap x) | _ => .bad
      | .clear => bif (P.underlying t).isSome then .ofEf (hClear P A t x) else .bad
      | .real => match x with | .complex k a _ => .val (.float k a) | _ => .bad
      | .imag => match x with | .complex k _ b => .val (.float k b) | _ => .bad
      | .unsafeSliceData => match x with
        | .slice (some a) _ c _ _ => bif Nat.beq c 0 then .bad else .val (.ptr (some a))
        | .slice none _ _ _ _ => .val (.ptr none)
        | _ => .bad
      | _ => .bad
    | [x, y] => match b with
      | .append => match P.underlying t with
        | some (.slice e) => bif Nat.beq (sz P e) 0 || !appT P ts then .bad else match lenA y with
          | some n => match srcCells A (sz P e) n y with
            | some new => .ofEf (appendA P e A x n new)
            | none => .bad
          | none => .bad
        | _ => .bad
      | .copy => match P.underlying t with
        | some (.slice e) => bif Nat.beq (sz P e) 0 then .bad else .ofEf (hCopy P A e x y)
        | _ => .bad
      | .delete => match P.underlying t with
        | some (.map kt _) => .ofEf (hDelete P A kt x y)
        | _ => .bad
      | .unsafeString => .ofEf (hUnsafeString P A t x y)
      | .complex => match x, y with
        | .float k a, .float k' b => if k = k' then .val (.complex k a b) else .bad
        | _, _ => .bad
      | .max => match x, y with
        | .int k a, .int k' b => bif kindEq k k' then .val (.int k (bif ltI a b then b else a)) else .bad
        | _, _ => .bad
      | .min => match x, y with
        | .int k a, .int k' b => bif kindEq k k' then .val (.int k (bif ltI b a then b else a)) else .bad
        | _, _ => .bad
      | _ => .bad
    | _ => .bad

def methodA (P : Program) (t : TypeId) (v : AV) (name : String) : Option (FuncId × AV) :=
  (P.info? t).bind fun inf => (inf.methods.find? (·.name == name)).bind fun m =>
  match m.func with
  | some (f, ptrRecv) =>
    match m.path.toList with
    | [] => match P.underlying t, ptrRecv with
      | some (.pointer _), true => some (f, v)
      | some (.pointer _), false => none
      | some _, false => some (f, v)
      | _, _ => none
    | [s] => if s.deref then none else match P.underlying s.struct, v with
      | some (.struct fs), .agg cs => match fs[s.index]? with
        | some fd => match partA P fd.type cs fd.offset, P.underlying fd.type, ptrRecv with
          | some x, some (.pointer _), true => some (f, x)
          | _, _, _ => none
        | none => none
      | _, _ => none
    | _ => none
  | none => none

def hCallF (fv : AV) (args : List AV) : OpRes := match fv with
  | .func g first cap => .call (.fn g (first ++ (args ++ cap)))
  | .yield l => .call (.yield l args)
  | _ => .bad

def hCall (P : Program) (tmps : Tm) (A : AW) (callee : Callee) (args : List AV) (ts : Array TypeId) : OpRes :=
  match callee with
  | .value f => hCallF (opd P tmps f) args
  | .invoke r name => match opd P tmps r with
    | .iface t v => match methodA P t v name with
      | some (f, x) => .call (.fn f (x :: args))
      | none => .bad
    | _ => .bad
  | .builtin b => hBuiltin P A b ts args

def hLoad (t : TypeId) (a : AV) : OpRes := match a with
  | .ptr (some (b, off)) => .rd (.load t b off)
  | _ => .bad
def hLookup (t : TypeId) (m k : AV) (ok : Bool) : OpRes := match m with
  | .map r => .rd (.lookup t r k ok)
  | _ => .bad
def hDefer (fv : AV) (args : List AV) : OpRes := match fv with
  | .func g first cap => .dfr (.call g cap (first ++ args))
  | _ => .bad
def hPanic (x : AV) : OpRes := match x with
  | .iface _ _ => .pan x
  | _ => .bad
def hNext (A : AW) (it : AV) (str : Bool) : OpRes := bif str then .ofEf (hNextStr A it) else nextMap A it

def opRes : Program → Tm → AW → Op → OpRes
  | P, tmps, A, .move x => .val (opd P tmps x)
  | P, tmps, A, .assign x => .val (opd P tmps x)
  | P, tmps, A, .pick c a b => .ofVal (hPick (opd P tmps c) (opd P tmps a) (opd P tmps b))
  | P, tmps, A, .alloc t => hAlloc P t
  | P, tmps, A, .box t x => hBox P t (opd P tmps x)
  | P, tmps, A, .build t ps => .ofVal (hBuild P t (parts P tmps ps.toList))
  | P, tmps, A, .buildSlice t len ps => hBuildSlice P t len (parts P tmps ps.toList)
  | P, tmps, A, .insert t m k v => .ofEf (hMapUpdate P A t (opd P tmps m) (opd P tmps k) (opd P tmps v))
  | P, tmps, A, .load t a => hLoad t (opd P tmps a)
  | P, tmps, A, .store t a x => .ofEf (hStore P A t (opd P tmps a) (opd P tmps x))
  | P, tmps, A, .ready _ => .bad
  | P, tmps, A, .waits _ => .bad
  | P, tmps, A, .nilCheck x => .ofVal (hNil (opd P tmps x))
  | P, tmps, A, .binOp op t x y _ => .ofVal (binA P op t (isConstOp x || isConstOp y) (opd P tmps x) (opd P tmps y))
  | P, tmps, A, .unOp op _ x => .ofVal (hUn P op (opd P tmps x))
  | P, tmps, A, .convert s d x => bif (P.underlying s).isSome then hConv P s d (opd P tmps x) else .bad
  | P, tmps, A, .sliceToArrayPointer _ _ => .bad
  | P, tmps, A, .makeInterface t x => .ofVal (hIface P t (opd P tmps x))
  | P, tmps, A, .makeFunc fn first cap => .ofVal (hFunc fn (opds P tmps first.toList) (opds P tmps cap.toList))
  | P, tmps, A, .makeMap _ r => hMakeMap (r.map (opd P tmps))
  | P, tmps, A, .makeChan _ _ => .bad
  | P, tmps, A, .makeSlice t l c => hMakeSlice P t (opd P tmps l) (opd P tmps c)
  | P, tmps, A, .slice t x lo hi mx => hSliceO P t (opd P tmps x) (lo.map (opd P tmps)) (hi.map (opd P tmps)) (mx.map (opd P tmps))
  | P, tmps, A, .fieldAddr s x f => .ofVal (hFieldAddr P s (opd P tmps x) f)
  | P, tmps, A, .field t x f => .ofVal (hField P t (opd P tmps x) f)
  | P, tmps, A, .indexAddr t x i => .ofVal (hIndexAddr P t (opd P tmps x) (opd P tmps i))
  | P, tmps, A, .index t x i => .ofVal (hIndex P t (opd P tmps x) (opd P tmps i))
  | P, tmps, A, .lookup t m k ok => hLookup t (opd P tmps m) (opd P tmps k) ok
  | P, tmps, A, .mapUpdate t m k v => .ofEf (hMapUpdate P A t (opd P tmps m) (opd P tmps k) (opd P tmps v))
  | P, tmps, A, .mapEntry t m k => .ofEf (hMapEntry P A t (opd P tmps m) (opd P tmps k))
  | P, tmps, A, .entryStore _ m s v => .ofEf (hEntryStore A (opd P tmps m) (opd P tmps s) (opd P tmps v))
  | P, tmps, A, .range t x => hRange P A t (opd P tmps x)
  | P, tmps, A, .next it str => hNext A (opd P tmps it) str
  | P, tmps, A, .entry it => .ofEf (hEntry A (opd P tmps it))
  | P, tmps, A, .typeAssert x _ t ok => .ofVal (hAssert P t ok (opd P tmps x))
  | P, tmps, A, .extract t i => .ofVal (hExtract (opd P tmps t) i)
  | P, tmps, A, .call c => hCall P tmps A c.callee (opds P tmps c.args.toList) c.argTypes
  | P, tmps, A, .go _ => .bad
  | P, tmps, A, .defer c => match c.callee with
    | .value f => hDefer (opd P tmps f) (opds P tmps c.args.toList)
    | _ => .bad
  | P, tmps, A, .panic x => hPanic (opd P tmps x)
  | P, tmps, A, .send _ _ => .bad
  | P, tmps, A, .recv _ _ _ => .bad
  | P, tmps, A, .select _ _ => .bad

/-- functions without a body -/
inductive Ext where
  | noEscape | count | indexByte | makeNoZero
  | valueOf | vType | isNil | typeOf | vElem | vSet | rElem | rAssignable | rImplements | tKind

def extTable : List (String × Ext) := [
  ("internal/abi.NoEscape", .noEscape), ("internal/bytealg.CountString", .count), ("internal/bytealg.IndexByteString", .indexByte),
  ("internal/bytealg.MakeNoZero", .makeNoZero), ("internal/reflectlite.ValueOf", .valueOf), ("(internal/reflectlite.Value).Type", .vType),
  ("(internal/reflectlite.Value).IsNil", .isNil), ("internal/reflectlite.TypeOf", .typeOf), ("(internal/reflectlite.Value).Elem", .vElem),
  ("(internal/reflectlite.Value).Set", .vSet), ("(internal/reflectlite.rtype).Elem", .rElem), ("(internal/reflectlite.rtype).AssignableTo", .rAssignable),
  ("(internal/reflectlite.rtype).Implements", .rImplements), ("(*internal/abi.Type).Kind", .tKind)]

def handleA (P : Program) (t : TypeId) : AV := .ptr (some (P.globals.size, t))
def ofHandleA (P : Program) : AV → Option TypeId
  | .ptr (some (b, t)) => if Nat.beq b P.globals.size then some t else none
  | _ => none
def typeA (P : Program) (t : TypeId) : Option AV := (pureRun P (cutType "internal/reflectlite.rtype")).map fun c => .iface c (.agg [handleA P t])
def mkA (P : Program) (t : TypeId) (b off : Nat) (fl : Nat) : Option AV :=
  (pureRun P (Extern.Rtype.kind t)).map fun k => .agg [handleA P t, .ptr (some (b, off)), .int .u64 (Int.ofNat (k + 128 + fl))]
def partsA (P : Program) : AV → Option (TypeId × Nat × Nat × Nat)
  | .agg [h, .ptr (some (b, off)), .int .u64 (.ofNat f)] => if f = 0 then none else match ofHandleA P h with
    | some t => if P.packed t then none else some (t, b, off, f)
    | none => none
  | _ => none

def findByte (c : Nat) : List Nat → Nat → Int
  | [], _ => -1
  | x :: s, i => bif Nat.beq x c then Int.ofNat i else findByte c s (Nat.succ i)
def countByte (c : Nat) : List Nat → Nat → Nat
  | [], n => n
  | x :: s, n => countByte c s (bif Nat.beq x c then Nat.succ n else n)

def extCall (P : Program) (e : Ext) (res : Array TypeId) (args : List AV) (A : AW) : Option (AV × AW) :=
  match e, args with
  | .noEscape, [x] => some (x, A)
  | .count, [.str s, .int .u8 (.ofNat c)] => bif Nat.blt c 256 then some (.int .i64 (Int.ofNat (countByte c s 0)), A) else none
  | .indexByte, [.str s, .int .u8 (.ofNat c)] => bif Nat.blt c 256 then some (.int .i64 (findByte c s 0), A) else none
  | .makeNoZero, [.int .i64 (.ofNat n)] => match (res[0]?).bind P.underlying with
    | some (.slice e) => if sz P e = 1 && Nat.ble n 1099511627776 then
        some (.slice (some (A.next, 0)) n n 1 false, A.push (.cells e (List.replicate n .any) false none)) else none
    | _ => none
  | .valueOf, [.iface t v] => (mkA P t A.next 0 0).bind fun r => (cellsOf P t v).map fun cs => (r, A.push (.cells t cs false none))
  | .vType, [v] => match partsA P v with
    | some (t, _, _, _) => (typeA P t).map fun r => (r, A)
    | none => none
  | .isNil, [v] => match partsA P v with
    | some (t, b, off, f) => if [18, 19, 20, 21, 22, 23, 26].contains (f % 32) then
        match evalRq P A (.load t b off) with
        | some (.ptr none) => some (.bool true, A)
        | some (.ptr (some _)) => some (.bool false, A)
        | _ => none
      else none
    | none => none
  | .typeOf, [.iface t _] => (typeA P t).map fun r => (r, A)
  | .vElem, [v] => match partsA P v with
    | some (t, b, off, f) => if Nat.beq (f % 32) 22 then
        match evalRq P A (.load t b off), pureRun P (Extern.Rtype.elem? t) with
        | some (.ptr (some (b', off'))), some (some e) => (mkA P e b' off' 256).map fun r => (r, A)
        | _, _ => none
      else none
    | none => none
  | .vSet, [v, x] => match partsA P v, partsA P x with
    | some (d, a, ao, fl), some (s, b, bo, _) => if fl / 256 % 2 = 0 then none else
      match evalRq P A (.load s b bo), pureRun P (Extern.Rtype.directlyAssignable d s) with
      | some val, some true => (cellsOf P d val).bind fun cs => bif szEq P d cs.length then (putCells A a ao cs).map fun A' => (.tuple [], A') else none
      | _, _ => none
    | _, _ => none
  | .rElem, [.agg [h]] => match ofHandleA P h with
    | some t => if P.packed t then none else match pureRun P (Extern.Rtype.elem? t) with
      | some (some e) => (typeA P e).map fun r => (r, A)
      | _ => none
    | none => none
  | .rAssignable, [.agg [h], .iface _ (.agg [h'])] => match ofHandleA P h, ofHandleA P h' with
    | some t, some u => if P.packed t || P.packed u then none else (pureRun P (Extern.ReflectliteType.assignableTo u t)).map fun b => (.bool b, A)
    | _, _ => none
  | .rImplements, [.agg [h], .iface _ (.agg [h'])] => match ofHandleA P h, ofHandleA P h' with
    | some t, some u => if P.packed t || P.packed u then none else (pureRun P (Extern.ReflectliteType.implements_ u t)).map fun b => (.bool b, A)
    | _, _ => none
  | .tKind, [h] => match ofHandleA P h with
    | some t => if P.packed t then none else (pureRun P (Extern.Rtype.kind t)).map fun k => (.int .u8 (Int.ofNat k), A)
    | none => none
  | _, _ => none

inductive Fin where
  | ret (v : AV) (taken : Bool)
  | panic (chain : List APE)

inductive Stp where
  | go (fr : AF) (A : AW)
  | call (callee fr : AF) (A : AW)
  | pick (n : Nat) (k : Nat → AF × AW)
  | fin (r : Fin) (A : AW)
  | bad

def ofArgs : List AV → Nat → Tm → Tm
  | [], _, t => t
  | a :: l, i, t => ofArgs l (Nat.succ i) (upd t i a)

def enterC (f : FuncId) (n : Nat) (c : Code) (args : List AV) (deferred : Bool) (rcv : ARcv) : AF :=
  ⟨⟨f, n, deferred, none⟩, ofArgs args 0 .nil, [.code c], ⟨[], rcv, []⟩, .run⟩

def enterA (P : Program) (f : FuncId) (args : List AV) (deferred : Bool) (rcv : ARcv) : Option AF :=
  match P.funcs[f]? with
  | some fn => match fn.body with
    | some c => bif Nat.ble args.length fn.ntmps then some (enterC f fn.ntmps c args deferred rcv) else none
    | none => none
  | none => none

def isEff : Op → Bool
  | .call { callee := .builtin b, .. } => match b with
    | .len | .cap | .max | .min | .complex | .real | .imag | .unsafeSliceData => false
    | _ => true
  | .move _ | .assign _ | .pick .. | .alloc _ | .box .. | .build .. | .buildSlice .. | .load .. | .nilCheck _ | .binOp .. | .unOp .. | .convert ..
  | .makeInterface .. | .makeFunc .. | .makeMap .. | .makeSlice .. | .slice .. | .fieldAddr .. | .field .. | .indexAddr .. | .index .. | .lookup ..
  | .typeAssert .. | .extract .. => false
  | _ => true

def effMask (ops : Array Oper) : Nat := (ops.toList.zipIdx.foldl (fun m (o, i) => if isEff o.op then m ||| 2 ^ i else m) 0)
def bitsUnder (m : Nat) : Nat → List Nat
  | 0 => []
  | n + 1 => bitsUnder m n ++ (if m.testBit n then [n] else [])
def sigma (ops : Array Oper) : List Nat :=
  let n := ops.size
  let bef := Region.before ops
  let eff := effMask ops
  let (l, done) := (bitsUnder eff n).foldl (fun (l, done) e =>
    let want := (bef.getD e 0 ||| 2 ^ e) &&& ((2 ^ n - 1) ^^^ done)
    (l ++ bitsUnder want n, done ||| want)) ([], 0)
  l ++ bitsUnder ((2 ^ n - 1) ^^^ done) n
/-- the temporaries that an operation names -/
def namesOf (ops : Array Oper) (o : Oper) : List Tmp :=
  o.dst.toList ++ (o.op.operands.toList.filterMap fun x => match x with | .tmp t => some t | _ => none) ++
  (match o.guard with | some (g, _) => ((ops[g]?).bind (·.dst)).toList | none => [])
/-- who writes a temporary and who names it: ordered as they stand -/
def tempOk (ops : Array Oper) (bef : Array Nat) : Bool := (List.range ops.size).all fun j => match ops[j]? with
  | some o => (namesOf ops o).all fun t => (List.range ops.size).all fun i => match ops[i]? with
    | some o' => o'.dst != some t || i == j || (bef.getD (max i j) 0).testBit (min i j)
    | none => true
  | none => true
/-- what is no act stands where the next act behind it needs it -/
def lateOk (bef : Array Nat) (eff : Nat) : List Nat → Bool
  | [] => true
  | i :: rest => (eff.testBit i || match rest.find? (eff.testBit ·) with | some e => (bef.getD e 0).testBit i | none => true) && lateOk bef eff rest
def drawOk (ops : Array Oper) (l : List Nat) : Bool :=
  let n := ops.size
  let bef := Region.before ops
  let eff := effMask ops
  tempOk ops bef && lateOk bef eff l &&
  (bitsUnder eff n).all (fun j => (bitsUnder (eff &&& (2 ^ j - 1)) n).all fun i => (bef.getD j 0).testBit i) &&
  (let (ok, done) := l.foldl (fun (ok, done) i => (ok && !done.testBit i && (bef.getD i 0 &&& done) == bef.getD i 0, done ||| 2 ^ i)) (true, 0)
   ok && done == 2 ^ n - 1)
def ahead (ops : Array Oper) (i : Nat) : Nat := (bitsUnder (effMask ops &&& ((Region.before ops).getD i 0)) ops.size).length

/-- operations with their numbers -/
def numbered (ops : Array Oper) : List Nat → List (Nat × Oper)
  | [] => []
  | i :: l => match ops[i]? with
    | some o => (i, o) :: numbered ops l
    | none => []
def inOrder (ops : Array Oper) : List (Nat × Oper) := go ops.toList 0
  where
  go : List Oper → Nat → List (Nat × Oper)
    | [], _ => []
    | o :: l, i => (i, o) :: go l (Nat.succ i)
def drawn (ops : Array Oper) : Option (List (Nat × Oper)) :=
  bif drawOk ops (sigma ops) then some (numbered ops (sigma ops)) else none

def dstOf (ops : Array Oper) (j : Nat) : Option Tmp := match ops[j]? with
  | some o => o.dst
  | none => none
def wantedA (ops : Array Oper) (tmps : Tm) (g : Option (Nat × Bool)) : Option Bool :=
  match g with
  | none => some true
  | some (j, want) => match dstOf ops j with
    | some d => match Tm.get tmps d with
      | .bool b => some (b == want)
      | .tuple [] => some false
      | _ => none
    | none => none

def agree (P : Program) (rq : Rq) (v : AV) : List AW → Bool
  | [] => true
  | A :: r => (match evalRq P A rq with | some u => AV.beq u v | none => false) && agree P rq v r

def St.did (st : St) (A : AW) : St := match st with
  | ⟨ds, rcv, h⟩ => match h with
    | [] => ⟨ds, rcv, []⟩
    | h => ⟨ds, rcv, A :: h⟩

/-- behind an act that changes nothing -/
def St.act (st : St) (op : Op) (A : AW) : St := match st with
  | ⟨ds, rcv, h⟩ => match h with
    | [] => ⟨ds, rcv, []⟩
    | h => bif isEff op then ⟨ds, rcv, A :: h⟩ else ⟨ds, rcv, h⟩

/-- calls that are known: what they answer, and the world behind them -/
abbrev Prims := FuncId → List AV → AW → Option (AV × AW)

def yieldA (l : Nat) (args : List AV) (fr : AF) (A : AW) : Stp :=
  match A.get l with
  | some (.loop r) => bif Nat.beq args.length r.params.size && r.params.toList.all (fun p => Nat.blt p r.n) then
      .call ⟨⟨r.fn, r.n, false, some l⟩, (r.params.toList.zip args).foldl (fun t pa => upd t pa.1 pa.2) r.tmps,
        [.code r.assign, .beginRound, .code r.body], ⟨[], .none, []⟩, .run⟩ fr A
    else .bad
  | _ => .bad

/-- a value, reckoned as far as its kind (for the kernel's sake alone: force v f = f v) -/
def force {β : Type} (v : AV) (f : AV → β) : β := match v with
  | .any => f .any
  | .bool b => match b with
    | true => f (.bool true)
    | false => f (.bool false)
  | .int k n => match n with
    | .ofNat m => f (.int k (.ofNat m))
    | .negSucc m => f (.int k (.negSucc m))
  | .float k b => f (.float k b)
  | .complex k a b => f (.complex k a b)
  | .str s => f (.str s)
  | .ptr a => match a with
    | none => f (.ptr none)
    | some (b, o) => f (.ptr (some (b, o)))
  | .slice a l c z e => match a with
    | none => f (.slice none l c z e)
    | some (b, o) => f (.slice (some (b, o)) l c z e)
  | .map r => match r with
    | none => f (.map none)
    | some b => f (.map (some b))
  | .func g x c => f (.func g x c)
  | .yield l => f (.yield l)
  | .nilFunc => f .nilFunc
  | .iface t v => f (.iface t v)
  | .nilIface => f .nilIface
  | .agg cs => f (.agg cs)
  | .tuple vs => f (.tuple vs)

/-- goes on behind an operation -/
def behind (hd : Hd) (tmps : Tm) (ops : Array Oper) (rest : List (Nat × Oper)) (k : List AItem) (st : St) (d : Option Tmp) (v : AV) (A : AW) : Stp :=
  force v fun v => .go ⟨hd, put tmps d v, .inReg ops rest :: k, st, .run⟩ A

def callA (P : Program) (pr : Prims) (hd : Hd) (tmps : Tm) (ops : Array Oper) (i : Nat) (o : Oper) (rest : List (Nat × Oper)) (k : List AItem) (st : St) (A : AW)
    (f : FuncId) (args : List AV) : Stp :=
  match pr f args A with
  | some (v, A') => behind hd tmps ops rest k (st.did A') o.dst v A'
  | none => match P.funcs[f]? with
    | none => .bad
    | some fn => match fn.body with
      | some c => bif Nat.ble args.length fn.ntmps then .call (enterC f fn.ntmps c args false .none) ⟨hd, tmps, .inReg ops ((i, o) :: rest) :: k, st, .run⟩ A else .bad
      | none => match extTable.lookup fn.name with
        | some e => match extCall P e fn.resultTypes args A with
          | some (v, A') => behind hd tmps ops rest k (st.did A') o.dst v A'
          | none => .bad
        | none => .bad

def recA (hd : Hd) (tmps : Tm) (ops : Array Oper) (rest : List (Nat × Oper)) (k : List AItem) (st : St) (d : Option Tmp) (A : AW) : Stp :=
  match hd.roundOf, st.hist, st.rcv with
  | none, [], .avail v => behind hd tmps ops rest k ⟨st.defers, .taken, []⟩ d v A
  | none, [], .none => behind hd tmps ops rest k st d .nilIface A
  | _, _, _ => .bad

def actA : Program → Prims → Hd → Tm → Array Oper → Nat → Oper → List (Nat × Oper) → List AItem → St → AW → Option Tmp → OpRes → Stp
  | P, pr, hd, tmps, ops, i, o, rest, k, st, A, d, .val v => behind hd tmps ops rest k (st.act o.op A) d v A
  | P, pr, hd, tmps, ops, i, o, rest, k, st, A, d, .rd q => match evalRq P A q with
    | some v => match st.hist with
      | [] => behind hd tmps ops rest k st d v A
      | h => bif agree P q v (h.take (Nat.sub h.length (ahead ops i))) then behind hd tmps ops rest k (st.act o.op A) d v A else .bad
    | none => .bad
  | P, pr, hd, tmps, ops, i, o, rest, k, st, A, d, .al ob v => match st.hist with
    | [] => behind hd tmps ops rest k st d (v A.next) (A.push ob)
    | h => bif isEff o.op then .bad else behind hd tmps ops rest k st d (v (Nat.add (histBase h) i)) (A.set (Nat.add (histBase h) i) (some ob))
  | P, pr, hd, tmps, ops, i, o, rest, k, st, A, d, .ef v A' => behind hd tmps ops rest k (st.did A') d v A'
  | P, pr, hd, tmps, ops, i, o, rest, k, st, A, d, .call t => match t with
    | .fn f args => callA P pr hd tmps ops i o rest k st A f args
    | .yield l args => yieldA l args ⟨hd, tmps, .inReg ops ((i, o) :: rest) :: k, st, .run⟩ A
  | P, pr, hd, tmps, ops, i, o, rest, k, st, A, d, .dfr df => match hd.roundOf, st.hist with
    | none, [] => behind hd tmps ops rest k ⟨df :: st.defers, st.rcv, []⟩ d .undef A
    | _, _ => .bad
  | P, pr, hd, tmps, ops, i, o, rest, k, st, A, d, .pan v => match st.hist with
    | [] => .go ⟨hd, tmps, .inReg ops ((i, o) :: rest) :: k, st, .panicking [⟨v, false⟩]⟩ A
    | _ => .bad
  | P, pr, hd, tmps, ops, i, o, rest, k, st, A, d, .rcvr => recA hd tmps ops rest k st d A
  | P, pr, hd, tmps, ops, i, o, rest, k, st, A, d, .pick n c => match st.hist with
    | [] => .pick n fun j => (⟨hd, put tmps d (c j).1, .inReg ops rest :: k, st, .run⟩, (c j).2)
    | _ => .bad
  | P, pr, hd, tmps, ops, i, o, rest, k, st, A, d, .bad => .bad

def dstOk (n : Nat) (d : Option Tmp) : Bool := match d with
  | some d => Nat.blt d n
  | none => true

def stepOp (P : Program) (pr : Prims) (hd : Hd) (tmps : Tm) (ops : Array Oper) (i : Nat) (o : Oper) (rest : List (Nat × Oper)) (k : List AItem) (st : St) (A : AW) : Stp :=
  bif dstOk hd.n o.dst then
    match wantedA ops tmps o.guard with
    | some true => actA P pr hd tmps ops i o rest k st A o.dst (opRes P tmps A o.op)
    | some false => behind hd tmps ops rest k (st.act o.op A) o.dst .undef A
    | none => .bad
  else .bad

def exitToA (id : Nat) : List AItem → Option (List AItem)
  | [] => none
  | it :: k => match it with
    | .inBlock id' => bif Nat.beq id' id then some k else exitToA id k
    | _ => exitToA id k

def gotoInA (l : Nat) : List AItem → Option (List AItem)
  | [] => none
  | it :: k => match it with
    | .inScope body => match findLabel body l with
      | some rest => some (.code rest :: .inScope body :: k)
      | none => gotoInA l k
    | _ => gotoInA l k

def resA (P : Program) (tmps : Tm) (A : AW) : List ResultVar → Option (List AV)
  | [] => some []
  | r :: l => match (match r with
      | .tmp t => some (Tm.get tmps t)
      | .cell a t => match Tm.get tmps a with
        | .ptr (some (b, off)) => loadA P A t b off
        | _ => none), resA P tmps A l with
    | some v, some vs => some (v :: vs)
    | _, _ => none

def resultsA (P : Program) (f : FuncId) (tmps : Tm) (A : AW) : Option AV :=
  match P.funcs[f]? with
  | none => none
  | some fn => match resA P tmps A fn.results.toList with
    | some [v] => some v
    | some vs => some (.tuple vs)
    | none => none

def leaveA (hd : Hd) (tmps : Tm) (todo : List AItem) (st : St) (A : AW) (jump : Option Code) : Stp :=
  match hd.roundOf with
  | none => match jump with
    | none => .go ⟨hd, tmps, todo, st, .returning⟩ A
    | some .ret => .go ⟨hd, tmps, todo, st, .returning⟩ A
    | _ => .bad
  | some l => match A.get l, st.defers with
    | some (.loop r), [] => .fin (.ret (.bool jump.isNone) false) (A.set l (some (.loop { r with state := if jump.isNone then .ready else .done, pending := jump })))
    | _, _ => .bad

def rangeA (P : Program) (hd : Hd) (tmps : Tm) (k : List AItem) (st : St) (A : AW) (fv : AV) (params : Array Tmp) (assign body : Code) : Stp :=
  match fv with
  | .func g first cap => match hd.roundOf with
    | none =>
      match enterA P g (first ++ (.yield (Nat.succ A.next) :: cap)) false .none with
      | some cal => .call cal ⟨hd, tmps, .inRangeFunc (Nat.succ A.next) :: k, ⟨.collected A.next :: st.defers, st.rcv, st.hist⟩, .run⟩
          ((A.push .deferred).push (.loop ⟨.ready, none, hd.fn, hd.n, tmps, params, assign, body, A.next⟩))
      | none => .bad
    | some o => match A.get o with
      | some (.loop r) =>
        match enterA P g (first ++ (.yield A.next :: cap)) false .none with
        | some cal => .call cal ⟨hd, tmps, .inRangeFunc A.next :: k, st, .run⟩ (A.push (.loop ⟨.ready, none, hd.fn, hd.n, tmps, params, assign, body, r.defers⟩))
        | none => .bad
      | _ => .bad
  | _ => .bad

def stepCode : Program → Hd → Tm → List AItem → St → AW → Code → Stp
  | P, hd, tmps, k, st, A, .skip => .go ⟨hd, tmps, k, st, .run⟩ A
  | P, hd, tmps, k, st, A, .region _ ops draw => bif draw then
      match drawn ops with
      | some l => .go ⟨hd, tmps, .inReg ops l :: k, ⟨st.defers, st.rcv, [A]⟩, .run⟩ (A.reserve ops.size)
      | none => .bad
    else .go ⟨hd, tmps, .inReg ops (inOrder ops) :: k, st, .run⟩ A
  | P, hd, tmps, k, st, A, .seq a b => .go ⟨hd, tmps, .code a :: .code b :: k, st, .run⟩ A
  | P, hd, tmps, k, st, A, .cond c a b => match opd P tmps c with
    | .bool t => .go ⟨hd, tmps, .code (bif t then a else b) :: k, st, .run⟩ A
    | _ => .bad
  | P, hd, tmps, k, st, A, .block id body => .go ⟨hd, tmps, .code body :: .inBlock id :: k, st, .run⟩ A
  | P, hd, tmps, k, st, A, .loop body => .go ⟨hd, tmps, .code body :: .inLoop body :: k, st, .run⟩ A
  | P, hd, tmps, k, st, A, .rangeFunc f params assign body => rangeA P hd tmps k st A (opd P tmps f) params assign body
  | P, hd, tmps, k, st, A, .exit id => match exitToA id k with
    | some k' => .go ⟨hd, tmps, k', st, .run⟩ A
    | none => leaveA hd tmps k st A (some (.exit id))
  | P, hd, tmps, k, st, A, .scope body => .go ⟨hd, tmps, .code body :: .inScope body :: k, st, .run⟩ A
  | P, hd, tmps, k, st, A, .label _ => .go ⟨hd, tmps, k, st, .run⟩ A
  | P, hd, tmps, k, st, A, .goto l => match gotoInA l k with
    | some k' => .go ⟨hd, tmps, k', st, .run⟩ A
    | none => leaveA hd tmps k st A (some (.goto l))
  | P, hd, tmps, k, st, A, .ret => leaveA hd tmps k st A (some .ret)
  | P, hd, tmps, k, st, A, .refuse _ => .bad

def beginA (hd : Hd) (tmps : Tm) (k : List AItem) (st : St) (A : AW) : Stp :=
  match hd.roundOf with
  | some l => match A.get l with
    | some (.loop r) => match r.state with
      | .ready => .go ⟨hd, tmps, k, st, .run⟩ (A.set l (some (.loop { r with state := .busy })))
      | _ => .bad
    | _ => .bad
  | none => .bad

def endLoopA (hd : Hd) (tmps : Tm) (k : List AItem) (st : St) (A : AW) (l : Nat) : Stp :=
  match A.get l with
  | some (.loop r) => match r.state with
    | .busy => .bad
    | _ => .go ⟨hd, tmps, (match r.pending with | some c => [.code c] | none => []) ++ k, st, .run⟩ (A.set l (some (.loop { r with state := .exhausted })))
  | _ => .bad

def stepItem : Program → Prims → Hd → Tm → List AItem → St → AW → AItem → Stp
  | P, pr, hd, tmps, k, st, A, .code c => stepCode P hd tmps k st A c
  | P, pr, hd, tmps, k, st, A, .inBlock _ => .go ⟨hd, tmps, k, st, .run⟩ A
  | P, pr, hd, tmps, k, st, A, .inLoop body => .go ⟨hd, tmps, .code body :: .inLoop body :: k, st, .run⟩ A
  | P, pr, hd, tmps, k, st, A, .inScope _ => .go ⟨hd, tmps, k, st, .run⟩ A
  | P, pr, hd, tmps, k, st, A, .inReg ops l => match l with
    | [] => .go ⟨hd, tmps, k, ⟨st.defers, st.rcv, []⟩, .run⟩ A
    | p :: rest => stepOp P pr hd tmps ops p.1 p.2 rest k st A
  | P, pr, hd, tmps, k, st, A, .inRangeFunc _ => .bad
  | P, pr, hd, tmps, k, st, A, .endRangeFunc l => endLoopA hd tmps k st A l
  | P, pr, hd, tmps, k, st, A, .beginRound => beginA hd tmps k st A

def rcvOf (m : AMode) : Option ARcv := match m with
  | .panicking [⟨v, false⟩] => some (.avail v)
  | .returning => some .none
  | _ => none

def unwindA (P : Program) (hd : Hd) (tmps : Tm) (todo : List AItem) (st : St) (mode : AMode) (A : AW) : Stp :=
  match st.defers with
  | d :: ds => match d with
    | .collected b => match A.get b with
      | some .deferred => .go ⟨hd, tmps, todo, ⟨ds, st.rcv, st.hist⟩, mode⟩ (A.set b none)
      | _ => .bad
    | .call f cap args => match rcvOf mode with
      | some rcv => match enterA P f (args ++ cap) true rcv with
        | some cal => .call cal ⟨hd, tmps, todo, ⟨ds, st.rcv, st.hist⟩, mode⟩ A
        | none => .bad
      | none => .bad
  | [] => match mode with
    | .panicking chain => match st.rcv with
      | .taken => .bad
      | _ => if hd.deferred || hd.roundOf.isSome then .bad else .fin (.panic chain) A
    | _ => match resultsA P hd.fn tmps A with
      | some v => .fin (.ret v (match st.rcv with | .taken => true | _ => false)) A
      | none => .bad

def stepG (P : Program) (pr : Prims) (hd : Hd) (tmps : Tm) (todo : List AItem) (st : St) (mode : AMode) (A : AW) : Stp :=
  match mode with
  | .run => match todo with
    | [] => leaveA hd tmps [] st A none
    | it :: k => stepItem P pr hd tmps k st A it
  | m => bif hd.roundOf.isNone then unwindA P hd tmps todo st m A else .bad

def stepF (P : Program) (pr : Prims) (fr : AF) (A : AW) : Stp := match fr with
  | ⟨hd, tmps, todo, st, mode⟩ => stepG P pr hd tmps todo st mode A

def finishA (hd : Hd) (tmps : Tm) (st : St) (todo : List AItem) (v : AV) : Option AF :=
  match todo with
  | [] => none
  | it :: k => match it with
    | .inReg ops l => match l with
      | p :: rest => bif dstOk hd.n p.2.dst then some ⟨hd, put tmps p.2.dst v, .inReg ops rest :: k, st, .run⟩ else none
      | [] => none
    | .inRangeFunc l => some ⟨hd, tmps, .endRangeFunc l :: k, st, .run⟩
    | _ => none

/-- a frame goes on behind a call -/
def resume (fr : AF) (r : Fin) (A : AW) : Option AF := match fr with
  | ⟨hd, tmps, todo, st, mode⟩ => match mode with
    | .run => match r with
      | .ret v _ => force v fun v => finishA hd tmps (st.did A) todo v
      | .panic chain => match st.hist with
        | [] => some ⟨hd, tmps, todo, st, .panicking chain⟩
        | _ => none
    | .returning => match r with
      | .ret _ false => some fr
      | _ => none
    | .panicking c => match r with
      | .ret _ true => match c with
        | [⟨_, false⟩] => some ⟨hd, tmps, todo, st, .returning⟩
        | _ => none
      | .ret _ false => some fr
      | _ => none

def runK (rec : AF → AW → Option (Fin × AW)) (s : Stp) : Option (Fin × AW) := match s with
  | .go fr A => rec fr A
  | .call cal fr A => match rec cal A with
    | some (r, A') => match resume fr r A' with
      | some fr' => rec fr' A'
      | none => none
    | none => none
  | .pick n k => bif Nat.beq n 1 then rec (k 0).1 (k 0).2 else none
  | .fin r A => some (r, A)
  | .bad => none

def run (P : Program) (pr : Prims) (fuel : Nat) : AF → AW → Option (Fin × AW) :=
  Nat.rec (motive := fun _ => AF → AW → Option (Fin × AW)) (fun _ _ => none) (fun _ ih fr A => runK ih (stepF P pr fr A)) fuel

def noPrims : Prims := fun _ _ _ => none

end Go.Ae
end

/- Trees of values: what is set is got. -/
namespace Go.Ae
open Go

theorem T.get_nil {α : Type} (d : α) (k : Nat) : T.get d .nil k = d := rfl
theorem T.get_node_zero {α : Type} (d v : α) (l r : T α) : T.get d (.node v l r) 0 = v := rfl
theorem T.get_node_succ {α : Type} (d v : α) (l r : T α) (k : Nat) :
    T.get d (.node v l r) (k + 1) = if k % 2 = 0 then T.get d l (k / 2) else T.get d r (k / 2) := by
  show Bool.rec (motive := fun _ => α) (T.get d r (k / 2)) (T.get d l (k / 2)) (Nat.beq (k % 2) 0) = _
  cases h : Nat.beq (k % 2) 0 with
  | true => simp [Nat.eq_of_beq_eq_true h]
  | false => simp [Nat.ne_of_beq_eq_false h]

theorem T.setF_zero {α : Type} (d v : α) (t : T α) (k : Nat) : T.setF d v 0 t k = t := rfl
theorem T.setF_nil_zero {α : Type} (d v : α) (f : Nat) : T.setF d v (f + 1) .nil 0 = .node v .nil .nil := rfl
theorem T.setF_node_zero {α : Type} (d v w : α) (l r : T α) (f : Nat) : T.setF d v (f + 1) (.node w l r) 0 = .node v l r := rfl
theorem T.setF_nil_succ {α : Type} (d v : α) (f k : Nat) :
    T.setF d v (f + 1) .nil (k + 1) = if k % 2 = 0 then .node d (T.setF d v f .nil (k / 2)) .nil else .node d .nil (T.setF d v f .nil (k / 2)) := by
  show Bool.rec (motive := fun _ => T α) (T.node d .nil (T.setF d v f .nil (k / 2))) (T.node d (T.setF d v f .nil (k / 2)) .nil) (Nat.beq (k % 2) 0) = _
  cases h : Nat.beq (k % 2) 0 with
  | true => simp [Nat.eq_of_beq_eq_true h]
  | false => simp [Nat.ne_of_beq_eq_false h]
theorem T.setF_node_succ {α : Type} (d v w : α) (l r : T α) (f k : Nat) :
    T.setF d v (f + 1) (.node w l r) (k + 1) = if k % 2 = 0 then .node w (T.setF d v f l (k / 2)) r else .node w l (T.setF d v f r (k / 2)) := by
  show Bool.rec (motive := fun _ => T α) (T.node w l (T.setF d v f r (k / 2))) (T.node w (T.setF d v f l (k / 2)) r) (Nat.beq (k % 2) 0) = _
  cases h : Nat.beq (k % 2) 0 with
  | true => simp [Nat.eq_of_beq_eq_true h]
  | false => simp [Nat.ne_of_beq_eq_false h]

theorem T.get_setF {α : Type} (d v : α) : ∀ (f : Nat) (t : T α) (k j : Nat), k < f →
    T.get d (T.setF d v f t k) j = if j = k then v else T.get d t j := by
  intro f
  induction f with
  | zero => intro t k j h; omega
  | succ f ih =>
    intro t k j h
    cases t with
    | nil =>
      cases k with
      | zero =>
        rw [T.setF_nil_zero]
        cases j with
        | zero => simp [T.get_node_zero]
        | succ j => rw [T.get_node_succ]; simp [T.get_nil]
      | succ k =>
        rw [T.setF_nil_succ]
        split
        · cases j with
          | zero => simp [T.get_node_zero, T.get_nil]
          | succ j =>
            rw [T.get_node_succ, ih _ _ _ (by omega)]
            simp only [T.get_nil]
            split <;> (try split) <;> (try split) <;> first | rfl | omega
        · cases j with
          | zero => simp [T.get_node_zero, T.get_nil]
          | succ j =>
            rw [T.get_node_succ, ih _ _ _ (by omega)]
            simp only [T.get_nil]
            split <;> (try split) <;> (try split) <;> first | rfl | omega
    | node w l r =>
      cases k with
      | zero =>
        rw [T.setF_node_zero]
        cases j with
        | zero => simp [T.get_node_zero]
        | succ j => rw [T.get_node_succ, T.get_node_succ]; simp
      | succ k =>
        rw [T.setF_node_succ]
        split
        · cases j with
          | zero => simp [T.get_node_zero]
          | succ j =>
            rw [T.get_node_succ, T.get_node_succ, ih _ _ _ (by omega)]
            split <;> (try split) <;> (try split) <;> first | rfl | omega
        · cases j with
          | zero => simp [T.get_node_zero]
          | succ j =>
            rw [T.get_node_succ, T.get_node_succ, ih _ _ _ (by omega)]
            split <;> (try split) <;> (try split) <;> first | rfl | omega

theorem T.get_set {α : Type} (d v : α) (t : T α) (k j : Nat) : T.get d (T.set d t k v) j = if j = k then v else T.get d t j :=
  T.get_setF d v (k + 1) t k j (by omega)

theorem AW.get_set (A : AW) (b : Nat) (o : Option AObj) (x : Nat) : (A.set b o).get x = if x = b then o else A.get x := by
  cases A; exact T.get_set _ _ _ _ _
theorem AW.get_push (A : AW) (o : AObj) (x : Nat) : (A.push o).get x = if x = A.next then some o else A.get x := by
  cases A; exact T.get_set _ _ _ _ _
theorem AW.next_set (A : AW) (b : Nat) (o : Option AObj) : (A.set b o).next = A.next := by cases A; rfl
theorem AW.next_push (A : AW) (o : AObj) : (A.push o).next = A.next + 1 := by cases A; rfl
theorem AW.get_reserve (A : AW) (n x : Nat) : (A.reserve n).get x = A.get x := by cases A; rfl
theorem AW.next_reserve (A : AW) (n : Nat) : (A.reserve n).next = A.next + n := by cases A; rfl
theorem Tm.get_upd (f : Tm) (i : Nat) (v : AV) (j : Nat) : Tm.get (upd f i v) j = if j = i then v else Tm.get f j := T.get_set _ _ _ _ _

theorem force_eq {β : Type} (v : AV) (f : AV → β) : force v f = f v := by
  cases v with
  | bool b => cases b <;> rfl
  | int k n => cases n <;> rfl
  | ptr a => rcases a with _ | ⟨b, o⟩ <;> rfl
  | slice a l c z e => rcases a with _ | ⟨b, o⟩ <;> rfl
  | map r => cases r <;> rfl
  | _ => rfl

end Go.Ae

/- How abstract values and worlds stand for the model's. -/
namespace Go.Ae
open Go

/-- of an abstract block: the model's block, where it begins there, how many cells it may have -/
abbrev Phi := Nat → Option (Nat × Nat × Nat)
def Phi.le (φ ψ : Phi) : Prop := ∀ b x, φ b = some x → ψ b = some x
theorem Phi.le_refl (φ : Phi) : φ.le φ := fun _ _ h => h
theorem Phi.le_trans {φ ψ χ : Phi} (h : φ.le ψ) (h' : ψ.le χ) : φ.le χ := fun b x e => h' b x (h b x e)
def Phi.put (φ : Phi) (b : Nat) (x : Nat × Nat × Nat) : Phi := fun c => if c = b then some x else φ c
theorem Phi.put_same (φ : Phi) (b : Nat) (x : Nat × Nat × Nat) : φ.put b x b = some x := by simp [Phi.put]
theorem Phi.put_other (φ : Phi) (b : Nat) (x : Nat × Nat × Nat) {c : Nat} (h : c ≠ b) : φ.put b x c = φ c := by simp [Phi.put, h]
theorem Phi.le_put (φ : Phi) (b : Nat) (x : Nat × Nat × Nat) (h : φ b = none) : φ.le (φ.put b x) := by
  intro c y e
  have : c ≠ b := fun hc => by rw [hc, h] at e; cases e
  rw [Phi.put_other _ _ _ this]; exact e

/-- may a value stand in one cell? -/
abbrev Flat (v : Value) : Prop := v.oneCell' = true

mutual
inductive VRel (φ : Phi) : AV → Value → Prop
  | any (v : Value) : VRel φ .any v
  | bool (b : Bool) : VRel φ (.bool b) (.bool b)
  | int (k : IntKind) (n : Int) : VRel φ (.int k n) (.int k n)
  | float (k : FloatKind) (n : Nat) : VRel φ (.float k n) (.float k n)
  | complex (k : FloatKind) (a b : Nat) : VRel φ (.complex k a b) (.complex k a b)
  | str (s : ByteArray) : VRel φ (.str (bytesOfStr s)) (.string s)
  | ptrNil : VRel φ (.ptr none) (.pointer none)
  | ptr {b off R s l : Nat} (h : φ b = some (R, s, l)) : VRel φ (.ptr (some (b, off))) (.pointer (some ⟨R, s + off, none⟩))
  | sliceNil (len cap z : Nat) (ex : Bool) : VRel φ (.slice none len cap z ex) (.slice none 0 0)
  | slice {b off len cap cap' z R s l : Nat} {ex : Bool} {a : Addr} (h : φ b = some (R, s, l)) (hc : cap ≤ cap') (he : ex = true → cap = cap') (hl : len ≤ cap)
      (hb : off + cap' * z ≤ l) (ha : 0 < cap' → a = ⟨R, s + off, none⟩) : VRel φ (.slice (some (b, off)) len cap z ex) (.slice (some a) len cap')
  | mapNil : VRel φ (.map none) (.map none)
  | map {b R s l : Nat} (h : φ b = some (R, s, l)) : VRel φ (.map (some b)) (.map (some R))
  | func {f : FuncId} {x c : List AV} {x' c' : Array Value} (hx : VRels φ x x'.toList) (hc : VRels φ c c'.toList) : VRel φ (.func f x c) (.func (.func f) x' c')
  | yield {b R s l : Nat} (h : φ b = some (R, s, l)) : VRel φ (.yield b) (.func (.yield R) #[] #[])
  | nilFunc : VRel φ .nilFunc .nilFunc
  | iface {t : TypeId} {v : AV} {v' : Value} (h : VRel φ v v') : VRel φ (.iface t v) (.iface t v')
  | nilIface : VRel φ .nilIface .nilIface
  | agg {x : List AV} {x' : Array Value} (h : VRels φ x x'.toList) (hf : ∀ v ∈ x'.toList, Flat v) : VRel φ (.agg x) (.agg x')
  | tuple {x : List AV} {x' : Array Value} (h : VRels φ x x'.toList) : VRel φ (.tuple x) (.tuple x')
inductive VRels (φ : Phi) : List AV → List Value → Prop
  | nil : VRels φ [] []
  | cons {v : AV} {v' : Value} {l : List AV} {l' : List Value} (h : VRel φ v v') (t : VRels φ l l') : VRels φ (v :: l) (v' :: l')
end

mutual
theorem VRel.mono {φ ψ : Phi} (hle : φ.le ψ) : ∀ {v : AV} {u : Value}, VRel φ v u → VRel ψ v u
  | _, _, .any v => .any v
  | _, _, .bool b => .bool b
  | _, _, .int k n => .int k n
  | _, _, .float k n => .float k n
  | _, _, .complex k a b => .complex k a b
  | _, _, .str s => .str s
  | _, _, .ptrNil => .ptrNil
  | _, _, .ptr h => .ptr (hle _ _ h)
  | _, _, .sliceNil a b c d => .sliceNil a b c d
  | _, _, .slice h hc he hl hb ha => .slice (hle _ _ h) hc he hl hb ha
  | _, _, .mapNil => .mapNil
  | _, _, .map h => .map (hle _ _ h)
  | _, _, .func hx hc => .func (VRels.mono hle hx) (VRels.mono hle hc)
  | _, _, .yield h => .yield (hle _ _ h)
  | _, _, .nilFunc => .nilFunc
  | _, _, .iface h => .iface (VRel.mono hle h)
  | _, _, .nilIface => .nilIface
  | _, _, .agg h hf => .agg (VRels.mono hle h) hf
  | _, _, .tuple h => .tuple (VRels.mono hle h)
theorem VRels.mono {φ ψ : Phi} (hle : φ.le ψ) : ∀ {v : List AV} {u : List Value}, VRels φ v u → VRels ψ v u
  | _, _, .nil => .nil
  | _, _, .cons h t => .cons (VRel.mono hle h) (VRels.mono hle t)
end

theorem VRel.ptr_inv {φ : Phi} {b off : Nat} {v : Value} (h : VRel φ (.ptr (some (b, off))) v) : ∃ R s l, v = .pointer (some ⟨R, s + off, none⟩) ∧ φ b = some (R, s, l) := by
  cases h; exact ⟨_, _, _, rfl, by assumption⟩
theorem VRel.slice_inv {φ : Phi} {b off len cap z : Nat} {ex : Bool} {v : Value} (h : VRel φ (.slice (some (b, off)) len cap z ex) v) :
    ∃ R s l a cap', v = .slice (some a) len cap' ∧ φ b = some (R, s, l) ∧ cap ≤ cap' ∧ (ex = true → cap = cap') ∧ len ≤ cap ∧ off + cap' * z ≤ l ∧ (0 < cap' → a = ⟨R, s + off, none⟩) := by
  cases h; exact ⟨_, _, _, _, _, rfl, by assumption, by assumption, by assumption, by assumption, by assumption, by assumption⟩
theorem VRel.map_inv {φ : Phi} {b : Nat} {v : Value} (h : VRel φ (.map (some b)) v) : ∃ R s l, v = .map (some R) ∧ φ b = some (R, s, l) := by
  cases h; exact ⟨_, _, _, rfl, by assumption⟩
theorem VRel.func_inv {φ : Phi} {f : FuncId} {x c : List AV} {v : Value} (h : VRel φ (.func f x c) v) : ∃ x' c', v = .func (.func f) x' c' ∧ VRels φ x x'.toList ∧ VRels φ c c'.toList := by
  cases h; exact ⟨_, _, rfl, by assumption, by assumption⟩
theorem VRel.yield_inv {φ : Phi} {b : Nat} {v : Value} (h : VRel φ (.yield b) v) : ∃ R s l, v = .func (.yield R) #[] #[] ∧ φ b = some (R, s, l) := by
  cases h; exact ⟨_, _, _, rfl, by assumption⟩
theorem VRel.iface_inv {φ : Phi} {t : TypeId} {x : AV} {v : Value} (h : VRel φ (.iface t x) v) : ∃ x', v = .iface t x' ∧ VRel φ x x' := by
  cases h; exact ⟨_, rfl, by assumption⟩
theorem VRel.agg_inv {φ : Phi} {x : List AV} {v : Value} (h : VRel φ (.agg x) v) : ∃ x', v = .agg x' ∧ VRels φ x x'.toList ∧ ∀ u ∈ x'.toList, Flat u := by
  cases h; exact ⟨_, rfl, by assumption, by assumption⟩
theorem VRel.tuple_inv {φ : Phi} {x : List AV} {v : Value} (h : VRel φ (.tuple x) v) : ∃ x', v = .tuple x' ∧ VRels φ x x'.toList := by
  cases h; exact ⟨_, rfl, by assumption⟩
theorem VRel.str_inv {φ : Phi} {x : List Nat} {v : Value} (h : VRel φ (.str x) v) : ∃ s, v = .string s ∧ x = bytesOfStr s := by
  cases h; exact ⟨_, rfl, rfl⟩

theorem VRels.length {φ : Phi} : ∀ {v : List AV} {u : List Value}, VRels φ v u → v.length = u.length
  | _, _, .nil => rfl
  | _, _, .cons _ t => by simp [VRels.length t]

theorem VRels.append {φ : Phi} : ∀ {v : List AV} {u : List Value} {x : List AV} {y : List Value}, VRels φ v u → VRels φ x y → VRels φ (v ++ x) (u ++ y)
  | _, _, _, _, .nil, h => h
  | _, _, _, _, .cons h t, h' => .cons h (VRels.append t h')

theorem VRels.get {φ : Phi} : ∀ {v : List AV} {u : List Value}, VRels φ v u → ∀ (i : Nat) (x : AV), v[i]? = some x → ∃ y, u[i]? = some y ∧ VRel φ x y
  | _, _, .nil, i, x, h => by simp at h
  | _, _, .cons h t, 0, x, e => by simp at e; subst e; exact ⟨_, rfl, h⟩
  | _, _, .cons h t, i + 1, x, e => by simp at e; obtain ⟨y, hy, hr⟩ := VRels.get t i x e; exact ⟨y, by simpa using hy, hr⟩

theorem VRels.of_get {φ : Phi} : ∀ {v : List AV} {u : List Value}, v.length = u.length → (∀ (i : Nat) (x : AV) (y : Value), v[i]? = some x → u[i]? = some y → VRel φ x y) → VRels φ v u
  | [], [], _, _ => .nil
  | [], _ :: _, h, _ => by simp at h
  | _ :: _, [], h, _ => by simp at h
  | a :: v, b :: u, h, e => .cons (e 0 a b rfl rfl) (VRels.of_get (by simpa using h) fun i x y hx hy => e (i + 1) x y (by simpa using hx) (by simpa using hy))

theorem VRels.take {φ : Phi} : ∀ {v : List AV} {u : List Value}, VRels φ v u → ∀ n, VRels φ (v.take n) (u.take n)
  | _, _, .nil, n => by simp; exact .nil
  | _, _, .cons h t, 0 => .nil
  | _, _, .cons h t, n + 1 => .cons h (VRels.take t n)
theorem VRels.drop {φ : Phi} : ∀ {v : List AV} {u : List Value}, VRels φ v u → ∀ n, VRels φ (v.drop n) (u.drop n)
  | _, _, .nil, n => by simp; exact .nil
  | _, _, .cons h t, 0 => .cons h t
  | _, _, .cons h t, n + 1 => VRels.drop t n

theorem cut_takeN {α : Type} : ∀ (l : List α) (n : Nat) (r : List α), cut.takeN l n = some r → n ≤ l.length ∧ r = l.take n
  | l, 0, r, h => by unfold cut.takeN at h; simp at h; simp [← h]
  | [], n + 1, r, h => by unfold cut.takeN at h; simp at h
  | a :: l, n + 1, r, h => by
    unfold cut.takeN at h
    split at h
    · rename_i r' h'
      obtain ⟨h1, h2⟩ := cut_takeN l n r' h'
      simp at h
      subst h
      simp [h1, h2]
    · cases h
theorem cut_some {α : Type} : ∀ (l : List α) (k n : Nat) (r : List α), cut l k n = some r → (n = 0 ∨ k + n ≤ l.length) ∧ r = (l.drop k).take n ∧ r.length = n
  | l, 0, n, r, h => by
    obtain ⟨h1, h2⟩ := cut_takeN l n r (by cases l <;> simpa [cut] using h)
    refine ⟨.inr (by omega), by simpa using h2, by rw [h2]; simp [h1]⟩
  | [], k + 1, n, r, h => by
    obtain ⟨h1, h2⟩ := cut_takeN ([] : List α) n r (by simpa [cut] using h)
    simp at h1
    subst h1
    simp at h2
    exact ⟨.inl rfl, by simp [h2], by simp [h2]⟩
  | a :: l, k + 1, n, r, h => by
    obtain ⟨h1, h2, h3⟩ := cut_some l k n r (by simpa [cut] using h)
    refine ⟨h1.imp id (fun h => by simp; omega), by simpa using h2, h3⟩

theorem VRels.cut {φ : Phi} {v : List AV} {u : List Value} (h : VRels φ v u) {k n : Nat} {r : List AV} (hc : Ae.cut v k n = some r) : VRels φ r ((u.drop k).take n) := by
  obtain ⟨_, h2, _⟩ := cut_some _ _ _ _ hc
  rw [h2]
  exact (h.drop k).take n

theorem paste_over {α : Type} : ∀ (l vs r : List α), paste.over l vs = some r → vs.length ≤ l.length ∧ r = vs ++ l.drop vs.length
  | l, [], r, h => by unfold paste.over at h; simp at h; simp [h]
  | [], v :: vs, r, h => by unfold paste.over at h; simp at h
  | a :: l, v :: vs, r, h => by
    unfold paste.over at h
    split at h
    · rename_i r' h'
      obtain ⟨h1, h2⟩ := paste_over l vs r' h'
      simp at h
      subst h
      simp [h1, h2]
    · cases h
theorem paste_some {α : Type} : ∀ (l : List α) (k : Nat) (vs r : List α), paste l k vs = some r → k + vs.length ≤ l.length ∧ r.length = l.length ∧
    ∀ i, r[i]? = if k ≤ i ∧ i < k + vs.length then vs[i - k]? else l[i]?
  | l, 0, vs, r, h => by
    obtain ⟨h1, h2⟩ := paste_over l vs r (by cases l <;> simpa [paste] using h)
    refine ⟨by omega, by rw [h2]; simp; omega, fun i => ?_⟩
    rw [h2]
    by_cases hi : i < vs.length
    · simp [hi, List.getElem?_append_left hi]
    · simp [hi, List.getElem?_append_right (Nat.le_of_not_lt hi)]
      congr 1; omega
  | [], k + 1, vs, r, h => by simp [paste] at h
  | a :: l, k + 1, vs, r, h => by
    simp only [paste] at h
    split at h
    · rename_i r' h'
      obtain ⟨h1, h2, h3⟩ := paste_some l k vs r' h'
      simp at h
      subst h
      refine ⟨by simp; omega, by simp [h2], fun i => ?_⟩
      cases i with
      | zero => simp
      | succ i =>
        simp only [List.getElem?_cons_succ, h3 i]
        by_cases hc : k ≤ i ∧ i < k + vs.length
        · rw [if_pos hc, if_pos (by omega)]; congr 1; omega
        · rw [if_neg hc, if_neg (by omega)]
    · cases h

end Go.Ae

/- How an abstract heap stands for the model's: content, separation; what changes keep it. -/
namespace Go.Ae
open Go

inductive AllRel {α β : Type} (R : α → β → Prop) : List α → List β → Prop
  | nil : AllRel R [] []
  | cons {a : α} {b : β} {l : List α} {l' : List β} (h : R a b) (t : AllRel R l l') : AllRel R (a :: l) (b :: l')

namespace AllRel
variable {α β : Type} {R S : α → β → Prop}
theorem mono (h : ∀ a b, R a b → S a b) : ∀ {x : List α} {y : List β}, AllRel R x y → AllRel S x y
  | _, _, .nil => .nil
  | _, _, .cons r t => .cons (h _ _ r) (mono h t)
theorem length : ∀ {x : List α} {y : List β}, AllRel R x y → x.length = y.length
  | _, _, .nil => rfl
  | _, _, .cons _ t => by simp [length t]
theorem append : ∀ {x : List α} {y : List β} {x' : List α} {y' : List β}, AllRel R x y → AllRel R x' y' → AllRel R (x ++ x') (y ++ y')
  | _, _, _, _, .nil, h => h
  | _, _, _, _, .cons r t, h => .cons r (append t h)
theorem get : ∀ {x : List α} {y : List β}, AllRel R x y → ∀ (i : Nat) (a : α), x[i]? = some a → ∃ b, y[i]? = some b ∧ R a b
  | _, _, .nil, i, a, h => by simp at h
  | _, _, .cons r t, 0, a, h => by simp at h; subst h; exact ⟨_, rfl, r⟩
  | _, _, .cons r t, i + 1, a, h => by simp at h; obtain ⟨b, hb, hr⟩ := get t i a h; exact ⟨b, by simpa using hb, hr⟩
theorem eraseIdx : ∀ {x : List α} {y : List β}, AllRel R x y → ∀ i, AllRel R (x.eraseIdx i) (y.eraseIdx i)
  | _, _, .nil, i => by simp; exact .nil
  | _, _, .cons r t, 0 => t
  | _, _, .cons r t, i + 1 => .cons r (eraseIdx t i)
end AllRel

def AObj.ro : AObj → Bool
  | .cells _ _ ro _ => ro
  | _ => false
def AObj.sib : AObj → Option Nat
  | .cells _ _ _ s => s
  | _ => none

def ERel (φ : Phi) (e : AV × AV × Nat) (m : MapEntry) : Prop := VRel φ e.1 m.key ∧ VRel φ e.2.1 m.val ∧ e.2.2 = m.born
theorem ERel.mono {φ ψ : Phi} (h : φ.le ψ) {e : AV × AV × Nat} {m : MapEntry} (r : ERel φ e m) : ERel ψ e m := ⟨r.1.mono h, r.2.1.mono h, r.2.2⟩

def TRel (φ : Phi) (n : Nat) (t : Tm) (a : Array Value) : Prop := a.size = n ∧ ∀ i, VRel φ (Tm.get t i) (a.getD i undef)
theorem TRel.mono {φ ψ : Phi} (h : φ.le ψ) {n : Nat} {t : Tm} {a : Array Value} (r : TRel φ n t a) : TRel ψ n t a := ⟨r.1, fun i => (r.2 i).mono h⟩

inductive ORel (φ : Phi) : AObj → Obj → Nat → Nat → Prop
  | cells {ty e : TypeId} {cs : List AV} {ro : Bool} {sib : Option Nat} {c : Array Value} {lo hi s l : Nat} (ht : ty = noTy ∨ ty = e ∧ s = 0) (hs : s + l ≤ c.size) (hl : cs.length ≤ l)
      (hv : VRels φ cs ((c.toList.drop s).take cs.length)) (hp : ∀ v ∈ (c.toList.drop s).take cs.length, Flat v) (hf : ro = false → hi ≤ lo ∨ hi ≤ s ∨ s + l ≤ lo) : ORel φ (.cells ty cs ro sib) (.cells c e (lo, hi)) s l
  | map {es : List (AV × AV × Nat)} {en : Array MapEntry} {clock : Nat} (h : AllRel (ERel φ) es en.toList) : ORel φ (.map es clock) (.map en clock) 0 0
  | siter (s : ByteArray) (pos : Nat) : ORel φ (.siter (bytesOfStr s) pos) (.stringIter s pos) 0 0
  | miterNil (since : Nat) (seen : List Nat) (seen' : Array Nat) (st : Nat) : ORel φ (.miter none since seen st) (.mapIter none since seen' st) 0 0
  | miter {m R : Nat} {since : Nat} {seen : List Nat} {seen' : Array Nat} {st : Nat} (h : φ m = some (R, 0, 0)) (hs : seen'.toList = seen.reverse) :
      ORel φ (.miter (some m) since seen st) (.mapIter (some R) since seen' st) 0 0
  | loop {r : ALoop} {r' : Loop} (h1 : r'.state = r.state) (h2 : r'.pending = r.pending) (h3 : r'.fn = r.fn) (h4 : TRel φ r.n r.tmps r'.tmps) (h5 : r'.params = r.params)
      (h6 : r'.assign = r.assign) (h7 : r'.body = r.body) (h8 : φ r.defers = some (r'.defers, 0, 0)) : ORel φ (.loop r) (.loop r') 0 0
  | deferred : ORel φ .deferred (.deferred (some [])) 0 0

theorem ORel.mono {φ ψ : Phi} (hle : φ.le ψ) {o : AObj} {o' : Obj} {s l : Nat} (h : ORel φ o o' s l) : ORel ψ o o' s l := by
  cases h with
  | cells ht hs hl hv hp hf => exact .cells ht hs hl (hv.mono hle) hp hf
  | map h => exact .map (h.mono fun _ _ r => ERel.mono hle r)
  | siter s pos => exact .siter s pos
  | miterNil a b c d => exact .miterNil a b c d
  | miter h hs => exact .miter (hle _ _ h) hs
  | loop h1 h2 h3 h4 h5 h6 h7 h8 => exact .loop h1 h2 h3 (h4.mono hle) h5 h6 h7 (hle _ _ h8)
  | deferred => exact .deferred

def Apart (b : Nat) (o : AObj) (b' : Nat) (o' : AObj) : Prop := (o.ro = true ∧ o'.ro = true) ∨ (o.sib = some b' ∧ o'.sib = some b)

structure HRel (φ : Phi) (A : AW) (h : Array Obj) : Prop where
  low : ∀ b o, A.get b = some o → b < A.next
  dom : ∀ b R s l, φ b = some (R, s, l) → b < A.next ∧ R < h.size
  con : ∀ b o, A.get b = some o → ∃ R s l obj, φ b = some (R, s, l) ∧ h[R]? = some obj ∧ ORel φ o obj s l
  sep : ∀ b b' o o' R s l s' l', b ≠ b' → A.get b = some o → A.get b' = some o' → φ b = some (R, s, l) → φ b' = some (R, s', l') → Apart b o b' o'

/-- what a part of a run keeps -/
structure Goes (lo : Nat) (φ : Phi) (A : AW) (w : World) (φ' : Phi) (A' : AW) (w' : World) : Prop where
  le : φ.le φ'
  next : A.next ≤ A'.next
  size : w.heap.size ≤ w'.heap.size
  keep : ∀ R, R < w.heap.size → (∀ b o s l, A.get b = some o → o.ro = false → φ b ≠ some (R, s, l)) → w'.heap[R]? = w.heap[R]?
  img : ∀ b o R s l, A'.get b = some o → o.ro = false → φ' b = some (R, s, l) → R < w.heap.size → ∃ b0 o0 s0 l0, A.get b0 = some o0 ∧ o0.ro = false ∧ φ b0 = some (R, s0, l0)
  img2 : ∀ b o R s l, A'.get b = some o → φ' b = some (R, s, l) → R < w.heap.size → ∃ b0 o0 s0 l0, A.get b0 = some o0 ∧ φ b0 = some (R, s0, l0)
  fresh : ∀ b R s l, φ' b = some (R, s, l) → φ b = none → lo ≤ b
  os : w'.os = w.os
  output : w'.output = w.output
  tape : w'.tape = w.tape

theorem Goes.refl (lo : Nat) (φ : Phi) (A : AW) (w : World) : Goes lo φ A w φ A w :=
  ⟨Phi.le_refl φ, Nat.le_refl _, Nat.le_refl _, fun _ _ _ => rfl, fun b o R s l h r e _ => ⟨b, o, s, l, h, r, e⟩, fun b o R s l h e _ => ⟨b, o, s, l, h, e⟩, fun b R s l h h' => (by rw [h] at h'; cases h'), rfl, rfl, rfl⟩

theorem Goes.weaken {lo lo' : Nat} {φ φ' : Phi} {A A' : AW} {w w' : World} (h : Goes lo φ A w φ' A' w') (hl : lo' ≤ lo) : Goes lo' φ A w φ' A' w' :=
  ⟨h.le, h.next, h.size, h.keep, h.img, h.img2, fun b R s l e n => Nat.le_trans hl (h.fresh b R s l e n), h.os, h.output, h.tape⟩

theorem Goes.trans {lo : Nat} {φ φ' φ'' : Phi} {A A' A'' : AW} {w w' w'' : World} (h : Goes lo φ A w φ' A' w') (h' : Goes lo φ' A' w' φ'' A'' w'') : Goes lo φ A w φ'' A'' w'' where
  le := Phi.le_trans h.le h'.le
  next := Nat.le_trans h.next h'.next
  size := Nat.le_trans h.size h'.size
  keep R hR hn := by
    rw [h'.keep R (Nat.lt_of_lt_of_le hR h.size) ?_, h.keep R hR hn]
    intro b o s l hg hr he
    obtain ⟨b0, o0, s0, l0, hg0, hr0, he0⟩ := h.img b o R s l hg hr he hR
    exact hn b0 o0 s0 l0 hg0 hr0 he0
  img b o R s l hg hr he hR := by
    obtain ⟨b1, o1, s1, l1, hg1, hr1, he1⟩ := h'.img b o R s l hg hr he (Nat.lt_of_lt_of_le hR h.size)
    exact h.img b1 o1 R s1 l1 hg1 hr1 he1 hR
  img2 b o R s l hg he hR := by
    obtain ⟨b1, o1, s1, l1, hg1, he1⟩ := h'.img2 b o R s l hg he (Nat.lt_of_lt_of_le hR h.size)
    exact h.img2 b1 o1 R s1 l1 hg1 he1 hR
  fresh b R s l hb hn := by
    cases hm : φ' b with
    | none => exact h'.fresh b R s l hb hm
    | some x => obtain ⟨R1, s1, l1⟩ := x; exact h.fresh b R1 s1 l1 hm hn
  os := h'.os.trans h.os
  output := h'.output.trans h.output
  tape := h'.tape.trans h.tape

theorem Goes.draw {lo : Nat} {φ φ' : Phi} {A A' : AW} {w w' : World} (h : Goes lo φ A w φ' A' w') (n : Nat) : Goes lo φ A w φ' A' { w' with drawn := n } :=
  ⟨h.le, h.next, h.size, h.keep, h.img, h.img2, h.fresh, h.os, h.output, h.tape⟩

/-- a fresh block at both -/
theorem HRel.alloc {φ : Phi} {A : AW} {h : Array Obj} (H : HRel φ A h) {b : Nat} {A' : AW} {o : AObj} {obj : Obj} {s l : Nat} (hb : φ b = none) (hn : A.get b = none)
    (hg : ∀ x, A'.get x = if x = b then some o else A.get x) (hl : b < A'.next) (hx : A.next ≤ A'.next)
    (ho : ORel (φ.put b (h.size, s, l)) o obj s l) : HRel (φ.put b (h.size, s, l)) A' (h.push obj) := by
  have hle : φ.le (φ.put b (h.size, s, l)) := Phi.le_put _ _ _ hb
  refine ⟨fun c p hc => ?_, fun c R s' l' hc => ?_, fun c p hc => ?_, fun c c' p p' R s1 l1 s2 l2 hne hc hc' hf hf' => ?_⟩
  · rw [hg] at hc
    split at hc
    · rename_i he; rw [he]; exact hl
    · exact Nat.lt_of_lt_of_le (H.low c p hc) hx
  · by_cases he : c = b
    · subst he
      rw [Phi.put_same] at hc
      cases hc
      exact ⟨hl, by simp⟩
    · rw [Phi.put_other _ _ _ he] at hc
      obtain ⟨h1, h2⟩ := H.dom c R s' l' hc
      exact ⟨Nat.lt_of_lt_of_le h1 hx, by simp; omega⟩
  · rw [hg] at hc
    split at hc
    · rename_i he
      cases hc
      subst he
      exact ⟨h.size, s, l, obj, Phi.put_same _ _ _, by simp, ho⟩
    · obtain ⟨R, s', l', obj', h1, h2, h3⟩ := H.con c p hc
      refine ⟨R, s', l', obj', hle _ _ h1, ?_, h3.mono hle⟩
      rw [Array.getElem?_push]
      have := (H.dom c R s' l' h1).2
      rw [if_neg (by omega)]
      exact h2
  · rw [hg] at hc hc'
    by_cases he : c = b
    · subst he
      rw [if_neg (fun h => hne h.symm)] at hc'
      rw [Phi.put_same] at hf
      rw [Phi.put_other _ _ _ (Ne.symm hne)] at hf'
      cases hf
      have := (H.dom c' _ _ _ hf').2
      omega
    · rw [if_neg he] at hc
      rw [Phi.put_other _ _ _ he] at hf
      by_cases he' : c' = b
      · subst he'
        rw [Phi.put_same] at hf'
        cases hf'
        have := (H.dom c _ _ _ hf).2
        omega
      · rw [if_neg he'] at hc'
        rw [Phi.put_other _ _ _ he'] at hf'
        exact H.sep c c' p p' R s1 l1 s2 l2 hne hc hc' hf hf'

theorem Goes.alloc {lo : Nat} {φ : Phi} {A : AW} {w : World} {b : Nat} {A' : AW} {o : AObj} {obj : Obj} {s l n : Nat} (hb : φ b = none)
    (hg : ∀ x, A'.get x = if x = b then some o else A.get x) (hx : A.next ≤ A'.next) (hbn : lo ≤ b) :
    Goes lo φ A w (φ.put b (w.heap.size, s, l)) A' { w with heap := w.heap.push obj, drawn := n } where
  le := Phi.le_put _ _ _ hb
  next := hx
  size := by simp
  keep R hR _ := by simp only [Array.getElem?_push]; rw [if_neg (by omega)]
  img c p R s1 l1 hc hr hf hR := by
    rw [hg] at hc
    by_cases he : c = b
    · subst he
      rw [Phi.put_same] at hf
      cases hf
      omega
    · rw [if_neg he] at hc
      rw [Phi.put_other _ _ _ he] at hf
      exact ⟨c, p, s1, l1, hc, hr, hf⟩
  img2 c p R s1 l1 hc hf hR := by
    rw [hg] at hc
    by_cases he : c = b
    · subst he
      rw [Phi.put_same] at hf
      cases hf
      omega
    · rw [if_neg he] at hc
      rw [Phi.put_other _ _ _ he] at hf
      exact ⟨c, p, s1, l1, hc, hf⟩
  fresh c R s1 l1 hc hn := by
    by_cases he : c = b
    · subst he; exact hbn
    · rw [Phi.put_other _ _ _ he, hn] at hc; cases hc
  os := rfl
  output := rfl
  tape := rfl

end Go.Ae

/- Reading and writing cells. -/
namespace Go.Ae
open Go

theorem setCells_heap (R : Nat) (e : TypeId) (f : Nat × Nat) : ∀ (vs : List Value) (o : Nat) (w : World) (c : Array Value), w.heap[R]? = some (.cells c e f) →
    ∃ c', (w.setCells R o vs).heap[R]? = some (.cells c' e f) ∧ c'.size = c.size ∧ ∀ i, c'[i]? = if o ≤ i ∧ i < o + vs.length ∧ i < c.size then vs[i - o]? else c[i]?
  | [], o, w, c, h => ⟨c, h, rfl, fun i => by rw [if_neg (by simp; omega)]⟩
  | v :: vs, o, w, c, h => by
    have h1 : (w.setCell ⟨R, o, none⟩ v).heap[R]? = some (.cells (c.setIfInBounds o v) e f) := by
      simp [World.setCell, Array.getElem?_modify, h]
    obtain ⟨c', h2, h3, h4⟩ := setCells_heap R e f vs (o + 1) _ _ h1
    refine ⟨c', h2, by simpa using h3, fun i => ?_⟩
    rw [h4 i]
    simp only [Array.size_setIfInBounds, List.length_cons]
    by_cases hi : i = o
    · subst hi
      rw [if_neg (by omega)]
      by_cases hc : i < c.size
      · rw [if_pos (by omega)]; simp [hc]
      · rw [if_neg (by omega)]; simp [hc]
    · by_cases hc : o + 1 ≤ i ∧ i < o + 1 + vs.length ∧ i < c.size
      · rw [if_pos hc, if_pos (by omega), show i - o = (i - (o + 1)) + 1 by omega]; simp
      · rw [if_neg hc, if_neg (by omega), Array.getElem?_setIfInBounds_ne (Ne.symm hi)]

theorem setCells_other (R R' : Nat) (hne : R' ≠ R) : ∀ (vs : List Value) (o : Nat) (w : World), (w.setCells R o vs).heap[R']? = w.heap[R']?
  | [], o, w => rfl
  | v :: vs, o, w => by
    rw [World.setCells, setCells_other R R' hne vs (o + 1)]
    simp only [World.setCell, Array.getElem?_modify]
    rw [if_neg (Ne.symm hne)]

theorem setCells_same (R : Nat) : ∀ (vs : List Value) (o : Nat) (w : World), (w.setCells R o vs).heap.size = w.heap.size ∧ (w.setCells R o vs).os = w.os ∧
    (w.setCells R o vs).output = w.output ∧ (w.setCells R o vs).tape = w.tape
  | [], o, w => ⟨rfl, rfl, rfl, rfl⟩
  | v :: vs, o, w => by
    obtain ⟨h1, h2, h3, h4⟩ := setCells_same R vs (o + 1) (w.setCell ⟨R, o, none⟩ v)
    exact ⟨by rw [World.setCells, h1]; simp [World.setCell], by rw [World.setCells, h2]; rfl, by rw [World.setCells, h3]; rfl, by rw [World.setCells, h4]; rfl⟩

theorem cell_of {w : World} {R : Nat} {c : Array Value} {e : TypeId} {f : Nat × Nat} (h : w.heap[R]? = some (.cells c e f)) (i : Nat) : w.cell? ⟨R, i, none⟩ = c[i]? := by
  simp [World.cell?, h]
theorem frozen_of {w : World} {R : Nat} {c : Array Value} {e : TypeId} {lo hi : Nat} (h : w.heap[R]? = some (.cells c e (lo, hi))) (i : Nat) :
    w.frozen? ⟨R, i, none⟩ = (decide (lo ≤ i) && decide (i < hi)) := by
  simp [World.frozen?, h]

/-- what a live block of cells is -/
theorem HRel.block {φ : Phi} {A : AW} {h : Array Obj} (H : HRel φ A h) {b : Nat} {ty : TypeId} {cs : List AV} {ro : Bool} {sib : Option Nat} (hb : A.get b = some (.cells ty cs ro sib)) :
    ∃ R s l c e lo hi, φ b = some (R, s, l) ∧ h[R]? = some (.cells c e (lo, hi)) ∧ s + l ≤ c.size ∧ cs.length ≤ l ∧ VRels φ cs ((c.toList.drop s).take cs.length) ∧
      (∀ v ∈ (c.toList.drop s).take cs.length, Flat v) ∧ (ro = false → hi ≤ lo ∨ hi ≤ s ∨ s + l ≤ lo) ∧ (ty = noTy ∨ ty = e ∧ s = 0) := by
  obtain ⟨R, s, l, obj, h1, h2, h3⟩ := H.con b _ hb
  cases h3 with
  | cells ht hs hl hv hp hf => exact ⟨R, s, l, _, _, _, _, h1, h2, hs, hl, hv, hp, hf, ht⟩

theorem getElem?_dropTake {α : Type} (l : List α) (s n i : Nat) : ((l.drop s).take n)[i]? = if i < n then l[s + i]? else none := by
  rw [List.getElem?_take]
  split
  · simp
  · rfl

/-- cells that are read -/
theorem HRel.range {φ : Phi} {A : AW} {w : World} (H : HRel φ A w.heap) {b : Nat} {ty : TypeId} {cs : List AV} {ro : Bool} {sib : Option Nat} (hb : A.get b = some (.cells ty cs ro sib))
    {R s l : Nat} (hφ : φ b = some (R, s, l)) {off n : Nat} {vs : List AV} (hc : cut cs off n = some vs) :
    ∃ us, VRels φ vs us ∧ us.length = n ∧ (∀ v ∈ us, Flat v) ∧ w.rangeAt R (s + off) us := by
  obtain ⟨R', s', l', c, e, lo, hi, h1, h2, h3, h4, h5, h6, h7, _⟩ := H.block hb
  rw [hφ] at h1
  cases h1
  obtain ⟨k1, k2, k3⟩ := cut_some _ _ _ _ hc
  refine ⟨((((c.toList.drop s).take cs.length).drop off).take n), h5.cut hc, ?_, fun v hv => h6 v (List.mem_of_mem_drop (List.mem_of_mem_take hv)), fun j v hj => ?_⟩
  · rw [← (h5.cut hc).length, k3]
  · rw [getElem?_dropTake] at hj
    split at hj
    · rename_i hjn
      rw [getElem?_dropTake] at hj
      split at hj
      · rw [cell_of h2, Nat.add_assoc]
        simpa using hj
      · cases hj
    · cases hj

theorem kill_get (A : AW) (s : Option Nat) (x : Nat) : (A.kill s).get x = if s = some x then none else A.get x := by
  cases s with
  | none => simp [AW.kill]
  | some b =>
    simp only [AW.kill, AW.get_set, Option.some.injEq]
    by_cases h : x = b
    · simp [h]
    · simp [h, Ne.symm h]
theorem kill_next (A : AW) (s : Option Nat) : (A.kill s).next = A.next := by
  cases s with
  | none => rfl
  | some b => simp [AW.kill, AW.next_set]

/-- cells that are written -/
theorem HRel.put {lo : Nat} {φ : Phi} {A A' : AW} {w : World} (H : HRel φ A w.heap) {b off : Nat} {vs : List AV} (hp : putCells A b off vs = some A')
    {R s l : Nat} (hφ : φ b = some (R, s, l)) {us : List Value} (hv : VRels φ vs us) (h1 : ∀ u ∈ us, Flat u) :
    (∀ j, j < us.length → (w.cell? ⟨R, s + off + j, none⟩).isSome = true) ∧ (∀ j, j < us.length → w.frozen? ⟨R, s + off + j, none⟩ = false) ∧
    HRel φ A' (w.setCells R (s + off) us).heap ∧ Goes lo φ A w φ A' (w.setCells R (s + off) us) := by
  unfold putCells at hp
  split at hp
  · rename_i ty cs ro sib hb
    cases ro with
    | true => simp at hp
    | false =>
      simp only [cond_false] at hp
      split at hp
      · rename_i cs' hpa
        cases hp
        obtain ⟨R', s', l', c, ety, fl, fh, g1, g2, g3, g4, g5, g6, g7, g8⟩ := H.block hb
        rw [hφ] at g1
        cases g1
        obtain ⟨p1, p2, p3⟩ := paste_some _ _ _ _ hpa
        have hlen := hv.length
        have hwr : ∀ j, j < us.length → s + off + j < s + l := by
          intro j hj
          omega
        obtain ⟨c', k1, k2, k3⟩ := setCells_heap R ety (fl, fh) us (s + off) w c g2
        obtain ⟨z1, z2, z3, z4⟩ := setCells_same R us (s + off) w
        have get' : ∀ x, ((A.kill sib).set b (some (.cells ty cs' false none))).get x =
            if x = b then some (.cells ty cs' false none) else if sib = some x then none else A.get x := by
          intro x; rw [AW.get_set, kill_get]
        -- another live block that lies in R is the sibling
        have only : ∀ x o s1 l1, x ≠ b → A.get x = some o → φ x = some (R, s1, l1) → sib = some x := by
          intro x o s1 l1 hx ho hf
          rcases H.sep b x _ o R s l s1 l1 (Ne.symm hx) hb ho hφ hf with h | h
          · simp [AObj.ro] at h
          · exact h.1
        refine ⟨fun j hj => ?_, fun j hj => ?_, ⟨fun x o hx => ?_, fun x R1 s1 l1 hx => ?_, fun x o hx => ?_, ?_⟩, ?_⟩
        · rw [cell_of g2]
          have := hwr j hj
          simp [show s + off + j < c.size by omega]
        · rw [frozen_of g2]
          have := hwr j hj
          have := g7 rfl
          simp
          omega
        · rw [get'] at hx
          simp only [AW.next_set, kill_next]
          split at hx
          · rename_i he; rw [he]; exact H.low b _ hb
          · split at hx
            · cases hx
            · exact H.low x o hx
        · simp only [AW.next_set, kill_next, z1]
          exact H.dom x R1 s1 l1 hx
        · rw [get'] at hx
          split at hx
          · rename_i he
            subst he
            cases hx
            refine ⟨R, s, l, _, hφ, k1, .cells g8 (by omega) (by omega) ?_ ?_ (fun _ => g7 rfl)⟩
            · refine VRels.of_get (by simp; omega) fun i x y hx hy => ?_
              rw [getElem?_dropTake] at hy
              split at hy
              · simp only [Array.getElem?_toList, k3] at hy
                rw [p3] at hx
                by_cases hr : off ≤ i ∧ i < off + vs.length
                · rw [if_pos hr] at hx
                  rw [if_pos (by have := hwr (i - off) (by omega); omega), show s + i - (s + off) = i - off by omega] at hy
                  obtain ⟨y', e1, e2⟩ := hv.get _ _ hx
                  rw [hy] at e1; cases e1; exact e2
                · rw [if_neg hr] at hx
                  rw [if_neg (by omega)] at hy
                  obtain ⟨y', e1, e2⟩ := g5.get _ _ hx
                  rw [getElem?_dropTake, if_pos (by omega)] at e1
                  simp only [Array.getElem?_toList, hy] at e1
                  cases e1; exact e2
              · cases hy
            · intro v hvm
              obtain ⟨i, hi⟩ := List.getElem?_of_mem hvm
              rw [getElem?_dropTake] at hi
              split at hi
              · simp only [Array.getElem?_toList, k3] at hi
                split at hi
                · exact h1 v (List.mem_of_getElem? hi)
                · refine g6 v (List.mem_of_getElem? (i := i) ?_)
                  rw [getElem?_dropTake, if_pos (by omega)]
                  simpa using hi
              · cases hi
          · rename_i he
            split at hx
            · cases hx
            · rename_i hs
              obtain ⟨R1, s1, l1, obj, e1, e2, e3⟩ := H.con x o hx
              have hR : R1 ≠ R := fun h => by subst h; exact hs (only x o s1 l1 he hx e1)
              exact ⟨R1, s1, l1, obj, e1, by rw [setCells_other R R1 hR]; exact e2, e3⟩
        · intro x x' o o' R1 s1 l1 s2 l2 hne hx hx' hf hf'
          rw [get'] at hx hx'
          by_cases he : x = b
          · subst he
            rw [hφ] at hf
            cases hf
            rw [if_neg (Ne.symm hne)] at hx'
            split at hx'
            · cases hx'
            · rename_i hs
              exact absurd (only x' o' s2 l2 (Ne.symm hne) hx' hf') hs
          · rw [if_neg he] at hx
            split at hx
            · cases hx
            · rename_i hs
              by_cases he' : x' = b
              · subst he'
                rw [hφ] at hf'
                cases hf'
                exact absurd (only x o s1 l1 he hx hf) hs
              · rw [if_neg he'] at hx'
                split at hx'
                · cases hx'
                · exact H.sep x x' o o' R1 s1 l1 s2 l2 hne hx hx' hf hf'
        · refine ⟨Phi.le_refl _, by simp [AW.next_set, kill_next], by rw [z1]; exact Nat.le_refl _, fun R1 hR1 hn => ?_, fun x o R1 s1 l1 hx hr hf hR1 => ?_, fun x o R1 s1 l1 hx hf hR1 => ?_, fun x R1 s1 l1 hx hn => ?_, z2, z3, z4⟩
          · refine setCells_other R R1 (fun h => ?_) us _ w
            subst h
            exact hn b _ s l hb rfl hφ
          · rw [get'] at hx
            split at hx
            · rename_i he
              subst he
              rw [hφ] at hf
              cases hf
              exact ⟨x, _, s, l, hb, rfl, hφ⟩
            · split at hx
              · cases hx
              · exact ⟨x, o, s1, l1, hx, hr, hf⟩
          · rw [get'] at hx
            split at hx
            · rename_i he
              subst he
              exact ⟨x, _, s1, l1, hb, hf⟩
            · split at hx
              · cases hx
              · exact ⟨x, o, s1, l1, hx, hf⟩
          · rw [hx] at hn; cases hn
      · cases hp
  · cases hp

end Go.Ae

/- Operations that touch no memory: numbers, texts. -/
namespace Go.Ae
open Go

theorem pureRun_ok {α : Type} {P : Program} : ∀ {s : Sem α} {a : α}, pureRun P s = some a → ∀ w, s.run P w = .ok a w := by
  intro s
  induction s with
  | pure b => intro a h w; simp only [pureRun, Option.some.injEq] at h; subst h; rfl
  | program k ih => intro a h w; exact ih P h w
  | mark m k ih => intro a h w; exact ih h w
  | _ => intro a h w; cases h

theorem VRel.ofSc {φ : Phi} {v : Value} {a : AV} (h : AV.ofSc v = some a) : VRel φ a v := by
  cases v <;> simp only [AV.ofSc, Option.some.injEq, reduceCtorEq] at h <;> subst h <;> constructor

theorem VRel.sc {φ : Phi} {x : AV} {u v : Value} (h : VRel φ x u) (e : x.sc = some v) : u = v := by
  cases h <;> simp only [AV.sc, Option.some.injEq, reduceCtorEq] at e <;> exact e

theorem pureBind_ok {P : Program} {φ : Phi} {m : Sem Value} {r : AV} (h : (pureRun P m).bind AV.ofSc = some r) : ∃ v, VRel φ r v ∧ ∀ w, m.run P w = .ok v w := by
  cases hp : pureRun P m with
  | none => rw [hp] at h; cases h
  | some v => rw [hp] at h; exact ⟨v, .ofSc h, pureRun_ok hp⟩

theorem kindEq_eq {a b : IntKind} (h : kindEq a b = true) : a = b := by
  cases a <;> cases b <;> first | rfl | cases h

theorem blt_lt {a b : Nat} (h : Nat.blt a b = true) : a < b := by simp [Nat.blt] at h; omega
theorem blt_ge {a b : Nat} (h : Nat.blt a b = false) : b ≤ a := by
  have : ¬ (a + 1 ≤ b) := fun hle => by
    have := Nat.ble_eq_true_of_le hle
    unfold Nat.blt at h
    rw [this] at h; cases h
  omega

theorem bif_blt {α : Type} {m n : Nat} {x y z : α} (h1 : m < n → x = z) (h2 : y = z) : (bif Nat.blt m n then x else y) = z := by
  cases h : Nat.blt m n with
  | false => exact h2
  | true => exact h1 (blt_lt h)
theorem wrapF_i64 (n : Int) : wrapF .i64 n = IntKind.i64.wrap n := by
  cases n with
  | ofNat m =>
    simp only [wrapF]
    exact bif_blt (fun h => (IntWalk.i64_in _ (by simp only [Int.ofNat_eq_natCast]; omega)).symm) rfl
  | negSucc m =>
    simp only [wrapF]
    exact bif_blt (fun h => (IntWalk.i64_in _ (by simp only [Int.negSucc_eq]; omega)).symm) rfl
theorem wrapF_eq (k : IntKind) (n : Int) : wrapF k n = k.wrap n := by
  cases k with
  | i64 => exact wrapF_i64 n
  | u8 => 
    rw [IntKind.wrap_u8]
    cases n with
    | ofNat m => exact (Int.natCast_emod m 256)
    | negSucc m => exact IntKind.wrap_u8 _
  | u32 => 
    rw [IntKind.wrap_u32]
    cases n with
    | ofNat m => exact (Int.natCast_emod m 4294967296)
    | negSucc m => exact IntKind.wrap_u32 _
  | u64 => 
    rw [IntKind.wrap_u64]
    cases n with
    | ofNat m => exact (Int.natCast_emod m 18446744073709551616)
    | negSucc m => exact IntKind.wrap_u64 _
  | i8 => cases n <;> rfl
  | i16 => cases n <;> rfl
  | i32 => cases n <;> rfl
  | u16 => cases n <;> rfl

theorem addI_eq (x y : Int) : addI x y = x + y := by cases x <;> cases y <;> rfl
theorem subI_eq (x y : Int) : subI x y = x - y := by
  cases x <;> cases y <;> try rfl
  rename_i a b
  simp only [subI]
  cases h : Nat.ble b a with
  | false => rfl
  | true =>
    have : b ≤ a := Nat.le_of_ble_eq_true h
    simp only [cond_true, Int.ofNat_eq_natCast, Nat.sub_eq]; omega
theorem mulI_eq (x y : Int) : mulI x y = x * y := by cases x <;> cases y <;> rfl
theorem eqI_eq (x y : Int) : eqI x y = decide (x = y) := by
  cases x with
  | ofNat a =>
    cases y with
    | ofNat b =>
      simp only [eqI]
      rw [Bool.eq_iff_iff]
      simp only [decide_eq_true_eq, Int.ofNat_eq_natCast, Int.natCast_inj]
      exact ⟨Nat.eq_of_beq_eq_true, fun h => by rw [h]; exact Nat.beq_refl b⟩
    | negSucc b => simp [eqI]
  | negSucc a =>
    cases y with
    | ofNat b => simp [eqI]
    | negSucc b =>
      simp only [eqI]
      rw [Bool.eq_iff_iff]
      simp only [decide_eq_true_eq, Int.negSucc_inj]
      exact ⟨Nat.eq_of_beq_eq_true, fun h => by rw [h]; exact Nat.beq_refl b⟩
theorem ltI_eq (x y : Int) : ltI x y = decide (x < y) := by
  cases x with
  | ofNat a =>
    cases y with
    | ofNat b =>
      simp only [ltI]
      rw [Bool.eq_iff_iff]
      simp [Nat.blt, Nat.succ_le_iff]
    | negSucc b => simp [ltI]; omega
  | negSucc a =>
    cases y with
    | ofNat b => simp [ltI]; omega
    | negSucc b =>
      simp only [ltI]
      rw [Bool.eq_iff_iff]
      simp [Nat.blt, Nat.succ_le_iff]; omega

theorem bytesOfStr_inj {a b : ByteArray} (h : bytesOfStr a = bytesOfStr b) : a.data.toList = b.data.toList := by
  unfold bytesOfStr at h
  exact (List.map_inj_right fun _ _ h => UInt8.toNat.inj h).1 h
theorem strEq_eq : ∀ (x y : List Nat), strEq x y = decide (x = y)
  | [], [] => rfl
  | [], _ :: _ => by simp [strEq]
  | _ :: _, [] => by simp [strEq]
  | a :: x, b :: y => by
    simp only [strEq]
    cases h : Nat.beq a b with
    | true => simp [Nat.eq_of_beq_eq_true h, strEq_eq x y]
    | false => simp [Nat.ne_of_beq_eq_false h]
theorem bytes_beq (a b : ByteArray) : (a.toList == b.toList) = strEq (bytesOfStr a) (bytesOfStr b) := by
  rw [strEq_eq, ByteArray.toList_eq, ByteArray.toList_eq, Bool.eq_iff_iff]
  simp only [beq_iff_eq, decide_eq_true_eq]
  exact ⟨fun h => by unfold bytesOfStr; rw [h], bytesOfStr_inj⟩
theorem bytesLess_eq : ∀ (x y : List UInt8), Op.bytesLess x y = strLt (x.map UInt8.toNat) (y.map UInt8.toNat)
  | _, [] => by simp [Op.bytesLess, strLt]
  | [], _ :: _ => by simp [Op.bytesLess, strLt]
  | a :: x, b :: y => by
    simp only [Op.bytesLess, strLt, List.map_cons, bytesLess_eq x y]
    have h1 : decide (a < b) = Nat.blt a.toNat b.toNat := by
      rw [Bool.eq_iff_iff]; simp [Nat.blt, Nat.succ_le_iff, UInt8.lt_iff_toNat_lt]
    have h2 : (a == b) = Nat.beq a.toNat b.toNat := by
      rw [Bool.eq_iff_iff]; simp [← UInt8.toNat_inj]
    rw [h1, h2]
theorem bytesOfStr_length (s : ByteArray) : (bytesOfStr s).length = s.size := by
  unfold bytesOfStr; rw [List.length_map, Array.length_toList]; rfl
theorem bytesOfStr_append (a b : ByteArray) : bytesOfStr (a ++ b) = bytesOfStr a ++ bytesOfStr b := by
  simp [bytesOfStr]

theorem eqGuard_ok {P : Program} (op : BinOp) (t : TypeId) (X Y : Operand) (a b : Value) (h : a ≠ .nilIface) (h' : ∀ x, a ≠ .agg x) (w : World) :
    (eqGuard op t X Y a b).run P w = .ok () w := by
  cases a <;> first
    | exact absurd rfl h
    | exact absurd rfl (h' _)
    | (cases op <;> rfl)

theorem unsLim_bits {k : IntKind} {a : Nat} (h : Nat.blt a (unsLim k) = true) : k.signed = false ∧ a < 2 ^ k.bits := by
  cases k <;> simp_all [unsLim, Nat.blt, IntKind.signed, IntKind.bits] <;> omega

theorem wrap_uns {k : IntKind} {a : Nat} (hs : k.signed = false) (h : a < 2 ^ k.bits) : k.wrap (a : Int) = a := by
  unfold IntKind.wrap
  rw [hs]
  simp only [Bool.false_and, Bool.false_eq_true, if_false]
  have e : ((2 : Int) ^ k.bits) = ((2 ^ k.bits : Nat) : Int) := by simp
  rw [e, ← Int.natCast_emod, Nat.mod_eq_of_lt h]

theorem bitI_ok {P : Program} {φ : Phi} {t : TypeId} {op : BinOp} {f : Nat → Nat → Nat} {k : IntKind} {x y : Int} {r : AV} (h : bitI P t op f k x y = some r)
    (hf : ∀ a b : Nat, k.signed = false → a < 2 ^ k.bits → b < 2 ^ k.bits → ∀ w, (binOp op t (.int k a) (.int k b)).run P w = .ok (.int k (f a b : Nat)) w) :
    ∃ v, VRel φ r v ∧ ∀ w, (binOp op t (.int k x) (.int k y)).run P w = .ok v w := by
  cases x with
  | ofNat a =>
    cases y with
    | ofNat b =>
      simp only [bitI] at h
      cases hc : (Nat.blt a (unsLim k) && Nat.blt b (unsLim k)) with
      | false => rw [hc] at h; exact pureBind_ok h
      | true =>
        rw [hc] at h
        simp only [Bool.and_eq_true] at hc
        simp only [cond_true, Option.some.injEq] at h
        subst h
        exact ⟨_, .int _ _, hf a b (unsLim_bits hc.1).1 (unsLim_bits hc.1).2 (unsLim_bits hc.2).2⟩
    | negSucc b => exact pureBind_ok h
  | negSucc a => exact pureBind_ok h

theorem bits_and {P : Program} {t : TypeId} {k : IntKind} (a b : Nat) (hs : k.signed = false) (ha : a < 2 ^ k.bits) (hb : b < 2 ^ k.bits) (w : World) :
    (binOp .and t (.int k a) (.int k b)).run P w = .ok (.int k (Nat.land a b : Nat)) w := by
  have e : (BitVec.ofInt k.bits (a : Int) &&& BitVec.ofInt k.bits (b : Int)).toNat = a &&& b := by
    simp [Nat.mod_eq_of_lt ha, Nat.mod_eq_of_lt hb]
  have l : a &&& b < 2 ^ k.bits := Nat.and_lt_two_pow _ hb
  simp only [binOp, ne_eq, not_true_eq_false, if_false, Op.intBits, Sem.run_pure]
  rw [e, wrap_uns hs l]; rfl
theorem bits_or {P : Program} {t : TypeId} {k : IntKind} (a b : Nat) (hs : k.signed = false) (ha : a < 2 ^ k.bits) (hb : b < 2 ^ k.bits) (w : World) :
    (binOp .or t (.int k a) (.int k b)).run P w = .ok (.int k (Nat.lor a b : Nat)) w := by
  have e : (BitVec.ofInt k.bits (a : Int) ||| BitVec.ofInt k.bits (b : Int)).toNat = a ||| b := by
    simp [Nat.mod_eq_of_lt ha, Nat.mod_eq_of_lt hb]
  have l : a ||| b < 2 ^ k.bits := Nat.or_lt_two_pow ha hb
  simp only [binOp, ne_eq, not_true_eq_false, if_false, Op.intBits, Sem.run_pure]
  rw [e, wrap_uns hs l]; rfl
theorem bits_xor {P : Program} {t : TypeId} {k : IntKind} (a b : Nat) (hs : k.signed = false) (ha : a < 2 ^ k.bits) (hb : b < 2 ^ k.bits) (w : World) :
    (binOp .xor t (.int k a) (.int k b)).run P w = .ok (.int k (Nat.xor a b : Nat)) w := by
  have e : (BitVec.ofInt k.bits (a : Int) ^^^ BitVec.ofInt k.bits (b : Int)).toNat = a ^^^ b := by
    simp [Nat.mod_eq_of_lt ha, Nat.mod_eq_of_lt hb]
  have l : a ^^^ b < 2 ^ k.bits := Nat.xor_lt_two_pow ha hb
  simp only [binOp, ne_eq, not_true_eq_false, if_false, Op.intBits, Sem.run_pure]
  rw [e, wrap_uns hs l]; rfl

theorem intBin_ok {P : Program} {φ : Phi} {t : TypeId} {op : BinOp} {k : IntKind} {x y : Int} {r : AV} (h : intBin P t op k x y = some r) (h1 : op ≠ .shl) (h2 : op ≠ .shr) :
    ∃ v, VRel φ r v ∧ ∀ w, (binOp op t (.int k x) (.int k y)).run P w = .ok v w := by
  cases op <;> simp only [intBin, Option.some.injEq] at h <;> first
    | exact pureBind_ok h
    | exact bitI_ok h (fun a b hs ha hb w => bits_and a b hs ha hb w)
    | exact bitI_ok h (fun a b hs ha hb w => bits_or a b hs ha hb w)
    | exact bitI_ok h (fun a b hs ha hb w => bits_xor a b hs ha hb w)
    | exact absurd rfl h1
    | exact absurd rfl h2
    | (subst h
       refine ⟨_, by constructor, fun w => ?_⟩
       simp only [binOp, ne_eq, not_true_eq_false, if_false, Op.intArith, Op.intCmp, Sem.run_pure, wrapF_eq, addI_eq, subI_eq, mulI_eq, eqI_eq, ltI_eq]
       try (congr 2; rw [Bool.eq_iff_iff]; simp)
       try (apply congrArg (fun b => Result.ok (Value.bool b) w); rw [Bool.eq_iff_iff]; simp))

end Go.Ae

/- Operations that touch no memory: shifts, texts, equality, parts. -/
namespace Go.Ae
open Go

/-- a value that stands for what a Sem answers, in whatever world -/
def Gives (P : Program) (φ : Phi) (r : AV) (m : Sem Value) : Prop := ∃ v, VRel φ r v ∧ ∀ w, m.run P w = .ok v w

theorem Gives.pure {P : Program} {φ : Phi} {r : AV} {v : Value} (h : VRel φ r v) : Gives P φ r (Pure.pure v) := ⟨v, h, fun _ => rfl⟩

theorem shiftA_ok {P : Program} {φ : Phi} {t : TypeId} {op : BinOp} {k k' : IntKind} {x y : Int} {r : AV} (h : shiftA P t op k x k' y = some r) (ho : op = .shl ∨ op = .shr) :
    Gives P φ r (binOp op t (.int k x) (.int k' y)) := by
  have hmin : ∀ b : Nat, (bif Nat.blt b k.bits then b else k.bits) = Nat.min b k.bits := by
    intro b
    cases hb : Nat.blt b k.bits with
    | true => have := blt_lt hb; simp [Nat.min_def]; omega
    | false => have := blt_ge hb; simp [Nat.min_def]; omega
  unfold shiftA at h
  split at h
  · simp only [Option.some.injEq] at h
    subst h
    rename_i a b
    refine ⟨_, .int _ _, fun w => ?_⟩
    simp only [binOp, Op.shift, hmin]
    rw [if_neg (by simp)]
    simp only [Sem.run_pure]
    congr 2
    rw [show (Int.ofNat b).toNat = b from rfl, show Nat.shiftRight a (Nat.min b k.bits) = a >>> (Nat.min b k.bits) from rfl, Nat.shiftRight_eq_div_pow]
    show Int.fdiv (a : Int) (2 ^ (Nat.min b k.bits)) = ((a / 2 ^ (Nat.min b k.bits) : Nat) : Int)
    rw [show ((2 : Int) ^ (Nat.min b k.bits)) = ((2 ^ (Nat.min b k.bits) : Nat) : Int) by simp, ← Int.ofNat_fdiv]
  · simp only [Option.some.injEq] at h
    subst h
    rename_i a b
    refine ⟨_, .int _ _, fun w => ?_⟩
    simp only [binOp, Op.shift, hmin]
    rw [if_neg (by simp)]
    simp only [Sem.run_pure, wrapF_eq]
    congr 3
    rw [show (Int.ofNat b).toNat = b from rfl, show Nat.shiftLeft a (Nat.min b k.bits) = a <<< (Nat.min b k.bits) from rfl, Nat.shiftLeft_eq]
    show (a : Int) * 2 ^ (Nat.min b k.bits) = ((a * 2 ^ (Nat.min b k.bits) : Nat) : Int)
    simp
  · exact pureBind_ok h

theorem strBin_ok {P : Program} {φ : Phi} {t : TypeId} {op : BinOp} {a b : ByteArray} {r : AV} (h : strBin op (bytesOfStr a) (bytesOfStr b) = some r) :
    Gives P φ r (binOp op t (.string a) (.string b)) := by
  have hlt : Op.bytesLess a.toList b.toList = strLt (bytesOfStr a) (bytesOfStr b) := by
    rw [ByteArray.toList_eq, ByteArray.toList_eq]; exact bytesLess_eq _ _
  cases op <;> simp only [strBin, Option.some.injEq, reduceCtorEq] at h
  case add =>
    cases hc : Nat.ble (Nat.add (bytesOfStr a).length (bytesOfStr b).length) 4611686018427387904 with
    | false => rw [hc] at h; cases h
    | true =>
      rw [hc] at h
      simp only [cond_true, Option.some.injEq] at h
      subst h
      have hle := Nat.le_of_ble_eq_true hc
      rw [bytesOfStr_length, bytesOfStr_length] at hle
      rw [← bytesOfStr_append]
      refine ⟨_, .str _, fun w => ?_⟩
      simp only [binOp, Op.stringOp, IntKind.max, IntKind.signed, IntKind.bits]
      rw [if_neg]
      · rfl
      · simp only [Nat.add_eq] at hle
        simp; omega
  all_goals
    subst h
    refine ⟨_, .bool _, fun w => ?_⟩
    simp only [binOp, Op.stringOp, bytes_beq, hlt, Sem.run_pure]

theorem isAggT_under {P : Program} {t : TypeId} {b : Bool} (hb : isAggT P t = some b) : ∃ d, P.underlying t = some d ∧ rowD d = b := by
  unfold isAggT at hb
  split at hb
  · rename_i d hd; exact ⟨d, hd, by simpa using hb⟩
  · cases hb
theorem isAgg_ok {P : Program} {t : TypeId} {b : Bool} (hb : isAggT P t = some b) (w : World) : (isAgg t).run P w = .ok b w := by
  obtain ⟨d, hd, rfl⟩ := isAggT_under hb
  unfold isAgg
  rw [Sem.run_bind, run_underlying hd w]
  cases d <;> rfl

theorem sizeOf_ok {P : Program} {t : TypeId} (h : P.info? t ≠ none) (w : World) : (sizeOf t).run P w = .ok (sz P t) w := by
  cases hi : P.info? t with
  | none => exact absurd hi h
  | some i => simp [sizeOf, typeInfo, hi, sz, Program.cellsOf]

theorem info_of_under {P : Program} {t : TypeId} (h : P.underlying t ≠ none) : P.info? t ≠ none := by
  intro hi
  apply h
  unfold Program.underlying
  rw [hi]
theorem info_of_agg {P : Program} {t : TypeId} {b : Bool} (h : isAggT P t = some b) : P.info? t ≠ none := by
  obtain ⟨d, hd, _⟩ := isAggT_under h
  exact info_of_under (by rw [hd]; simp)

theorem getElem?_extract {α : Type} (a : Array α) (i n : Nat) : (a.extract i (i + n)).toList = (a.toList.drop i).take n := by
  simp [Array.toList_extract]

/-- a part of an aggregate -/
theorem partA_ok {P : Program} {φ : Phi} {t : TypeId} {cs : List AV} {cs' : Array Value} {off : Nat} {r : AV} (h : partA P t cs off = some r)
    (hr : VRels φ cs cs'.toList) (hf : ∀ v ∈ cs'.toList, Flat v) : Gives P φ r (part t cs' off) := by
  unfold partA at h
  split at h
  · rename_i hb
    split at h
    · rename_i p hc
      simp only [Option.some.injEq] at h
      subst h
      refine ⟨.agg (cs'.extract off (off + sz P t)), .agg ?_ ?_, fun w => ?_⟩
      · rw [getElem?_extract]; exact hr.cut hc
      · intro v hv
        rw [getElem?_extract] at hv
        exact hf v (List.mem_of_mem_drop (List.mem_of_mem_take hv))
      · simp [part, isAgg_ok hb, sizeOf_ok (info_of_agg hb)]
    · cases h
  · rename_i hb
    obtain ⟨y, hy, hv⟩ := hr.get _ _ h
    refine ⟨y, hv, fun w => ?_⟩
    have hy' : cs'[off]? = some y := by simpa using hy
    simp [part, isAgg_ok hb, hy']
  · cases h

/-- the loop over an array's elements -/
def eqElems (d : Nat) (e : TypeId) (xs ys : Array Value) (n : Nat) : List Nat → Sem Bool
  | [] => pure true
  | i :: l => do
    let a ← part e xs (i * n)
    let b ← part e ys (i * n)
    let r ← Op.equalIn d e a b
    if (!r) = true then pure false else eqElems d e xs ys n l

theorem run_equalIn_array {P : Program} (w : World) (d : Nat) (t e : TypeId) (n : Nat) (xs ys : Array Value) (ht : P.underlying t = some (.array n e)) (he : P.info? e ≠ none) :
    (Op.equalIn (d + 1) t (.agg xs) (.agg ys)).run P w = (eqElems d e xs ys (sz P e) (List.range' 0 n)).run P w := by
  simp only [Op.equalIn, Sem.run_bind, run_underlying ht, Result.andThen_ok, sizeOf_ok he]
  rw [Std.Legacy.Range.forIn_eq_forIn_range']
  simp only [Std.Legacy.Range.size, Nat.sub_zero, Nat.add_sub_cancel, Nat.div_one]
  generalize List.range' 0 n = l
  induction l generalizing w with
  | nil => simp [eqElems]
  | cons i l ih =>
    simp only [List.forIn_cons, eqElems, Sem.run_bind, Sem.run_ite]
    generalize (part e xs (i * sz P e)).run P w = r1
    cases r1 with
    | ok a w1 =>
      simp only [Result.andThen_ok]
      generalize (part e ys (i * sz P e)).run P w1 = r2
      cases r2 with
      | ok b w2 =>
        simp only [Result.andThen_ok]
        generalize (Op.equalIn d e a b).run P w2 = r3
        cases r3 with
        | ok r w3 =>
          cases r
          · simp only [Result.andThen_ok, Bool.not_false, if_true, Sem.run_pure]
          · simp only [Result.andThen_ok, Bool.not_true, Bool.false_eq_true, if_false, Sem.run_pure]
            exact ih w3
        | halt x w3 => simp [Result.andThen]
      | halt x w2 => simp [Result.andThen]
    | halt x w1 => simp [Result.andThen]

theorem eqP_under {P : Program} {d : Nat} {t : TypeId} {x y : AV} {b : Bool} (h : eqP P d t x y = some b) : P.underlying t ≠ none := by
  cases d with
  | zero => simp [eqP] at h
  | succ d =>
    intro hn
    cases x <;> cases y <;> simp [eqP, hn] at h

mutual
theorem eqP_ok {P : Program} {φ : Phi} : ∀ (d n : Nat) (t : TypeId) (x y : AV) (x' y' : Value) (b : Bool), eqP P d t x y = some b → VRel φ x x' → VRel φ y y' → d ≤ n →
    ∀ w, (Op.equalIn n t x' y').run P w = .ok b w
  | 0, n, t, x, y, x', y', b, h, hx, hy, hd, w => by simp [eqP] at h
  | d + 1, 0, t, x, y, x', y', b, h, hx, hy, hd, w => by omega
  | d + 1, n + 1, t, x, y, x', y', b, h, hx, hy, hd, w => by
    cases hx <;> first
      | (simp only [eqP, reduceCtorEq] at h; done)
      | skip
    · rename_i a
      cases hy <;> first
        | (simp only [eqP, reduceCtorEq] at h; done)
        | skip
      rename_i c
      simp only [eqP] at h
      split at h
      · rename_i hu
        cases h
        rw [run_equalIn_bool' w n t a c hu]
      · cases h
    · rename_i j a
      cases hy <;> first
        | (simp only [eqP, reduceCtorEq] at h; done)
        | skip
      rename_i k c
      simp only [eqP] at h
      split at h
      · rename_i hu
        cases hk : kindEq j k with
        | false => rw [hk] at h; cases h
        | true =>
          rw [hk] at h
          cases h
          obtain rfl := kindEq_eq hk
          rw [run_equalIn_int w n t j _ a c hu, eqI_eq]
          congr 1
      · cases h
    · rename_i a
      cases hy <;> first
        | (simp only [eqP, reduceCtorEq] at h; done)
        | skip
      rename_i c
      simp only [eqP] at h
      split at h
      · rename_i hu
        cases h
        rw [run_equalIn_string w n t a c hu, bytes_beq]
      · cases h
    · rename_i a a' ha hfa
      cases hy <;> first
        | (simp only [eqP, reduceCtorEq] at h; done)
        | skip
      rename_i c c' hc hfc
      simp only [eqP] at h
      split at h
      · rename_i fs hu
        cases hs : P.stoodInHeld t with
        | true => rw [hs] at h; cases h
        | false =>
          rw [hs] at h
          have hfo : P.fieldsOf t = fs := by simp [Program.fieldsOf, hu]
          rw [run_equalIn_struct w n t a' c' (by rw [hfo]; exact hu) hs, hfo]
          exact eqFs_ok d n fs.toList a c a' c' b h ha hc hfa hfc (by omega) w
      · rename_i m e hu
        split at h
        · rename_i inf hi
          rw [run_equalIn_array w n t e m a' c' hu (by rw [hi]; simp)]
          exact eqEs_ok d n e m 0 a c a' c' b h ha hc hfa hfc (by omega) w
        · cases h
      · cases h
theorem eqFs_ok {P : Program} {φ : Phi} : ∀ (d n : Nat) (fs : List Field) (a c : List AV) (a' c' : Array Value) (b : Bool), eqFs P d fs a c = some b → VRels φ a a'.toList → VRels φ c c'.toList →
    (∀ v ∈ a'.toList, Flat v) → (∀ v ∈ c'.toList, Flat v) → d ≤ n → ∀ w, (Op.eqFields n a' c' fs).run P w = .ok b w
  | d, n, [], a, c, a', c', b, h, ha, hc, hfa, hfc, hd, w => by
    cases d <;> (simp only [eqFs, Option.some.injEq] at h; subst h; rfl)
  | 0, n, f :: fs, a, c, a', c', b, h, ha, hc, hfa, hfc, hd, w => by simp [eqFs] at h
  | d + 1, n, f :: fs, a, c, a', c', b, h, ha, hc, hfa, hfc, hd, w => by
    simp only [eqFs] at h
    cases hn : f.name == "_" with
    | true => rw [hn] at h; cases h
    | false =>
      rw [hn] at h
      simp only [cond_false] at h
      split at h
      · rename_i x hx
        split at h
        · rename_i y hy
          split at h
          · rename_i he
            obtain ⟨x', hx1, hx2⟩ := partA_ok hx ha hfa
            obtain ⟨y', hy1, hy2⟩ := partA_ok hy hc hfc
            have := eqP_ok d n f.type x y x' y' true he hx1 hy1 (by omega)
            have hn' : f.name ≠ "_" := by simpa using hn
            simp only [Op.eqFields, hn', ne_eq, not_false_eq_true, if_true, Sem.run_bind, hx2, hy2, this, Result.andThen_ok, Bool.not_true, Bool.false_eq_true, if_false]
            exact eqFs_ok d n fs a c a' c' b h ha hc hfa hfc (by omega) w
          · rename_i he
            cases h
            obtain ⟨x', hx1, hx2⟩ := partA_ok hx ha hfa
            obtain ⟨y', hy1, hy2⟩ := partA_ok hy hc hfc
            have := eqP_ok d n f.type x y x' y' false he hx1 hy1 (by omega)
            have hn' : f.name ≠ "_" := by simpa using hn
            simp only [Op.eqFields, hn', ne_eq, not_false_eq_true, if_true, Sem.run_bind, hx2, hy2, this, Result.andThen_ok, Bool.not_false, Sem.run_pure]
          · cases h
        · cases h
      · cases h
theorem eqEs_ok {P : Program} {φ : Phi} : ∀ (d n : Nat) (e : TypeId) (m i : Nat) (a c : List AV) (a' c' : Array Value) (b : Bool), eqEs P d e m i a c = some b → VRels φ a a'.toList → VRels φ c c'.toList →
    (∀ v ∈ a'.toList, Flat v) → (∀ v ∈ c'.toList, Flat v) → d ≤ n → ∀ w, (eqElems n e a' c' (sz P e) (List.range' i m)).run P w = .ok b w
  | d, n, e, 0, i, a, c, a', c', b, h, ha, hc, hfa, hfc, hd, w => by
    cases d <;> (simp only [eqEs, Option.some.injEq] at h; subst h; rfl)
  | 0, n, e, m + 1, i, a, c, a', c', b, h, ha, hc, hfa, hfc, hd, w => by simp [eqEs] at h
  | d + 1, n, e, m + 1, i, a, c, a', c', b, h, ha, hc, hfa, hfc, hd, w => by
    simp only [eqEs] at h
    split at h
    · rename_i x hx
      split at h
      · rename_i y hy
        split at h
        · rename_i he
          obtain ⟨x', hx1, hx2⟩ := partA_ok hx ha hfa
          obtain ⟨y', hy1, hy2⟩ := partA_ok hy hc hfc
          have := eqP_ok d n e x y x' y' true he hx1 hy1 (by omega)
          simp only [Nat.mul_eq] at hx2 hy2
          simp only [List.range'_succ, eqElems, Sem.run_bind, hx2, hy2, this, Result.andThen_ok, Bool.not_true, Bool.false_eq_true, if_false]
          exact eqEs_ok d n e m (i + 1) a c a' c' b h ha hc hfa hfc (by omega) w
        · rename_i he
          cases h
          obtain ⟨x', hx1, hx2⟩ := partA_ok hx ha hfa
          obtain ⟨y', hy1, hy2⟩ := partA_ok hy hc hfc
          have := eqP_ok d n e x y x' y' false he hx1 hy1 (by omega)
          simp only [Nat.mul_eq] at hx2 hy2
          simp only [List.range'_succ, eqElems, Sem.run_bind, hx2, hy2, this, Result.andThen_ok, Bool.not_false, if_true, Sem.run_pure]
        · cases h
      · cases h
    · cases h
end

end Go.Ae

/- Operations that touch no memory: equality at all types, binary and unary operations, choices, addresses. -/
namespace Go.Ae
open Go

theorem sz_info {P : Program} {t : TypeId} (h : sz P t ≠ 0) : P.info? t ≠ none := by
  intro hn; apply h; simp [sz, Program.cellsOf, hn]

theorem eqT_bool {P : Program} {t : TypeId} {b : Bool} (h : eqT P t (.bool b) = true) : P.underlying t = some .bool := by
  unfold eqT at h; split at h <;> simp_all
theorem eqT_ptr {P : Program} {t : TypeId} {a} (h : eqT P t (.ptr a) = true) : ∃ e, P.underlying t = some (.pointer e) := by
  unfold eqT at h; split at h <;> simp_all
theorem eqT_slice {P : Program} {t : TypeId} {a l c z e} (h : eqT P t (.slice a l c z e) = true) : ∃ e, P.underlying t = some (.slice e) := by
  unfold eqT at h; split at h <;> simp_all
theorem eqT_map {P : Program} {t : TypeId} {a} (h : eqT P t (.map a) = true) : ∃ k e, P.underlying t = some (.map k e) := by
  unfold eqT at h; split at h <;> simp_all
theorem eqT_nilFunc {P : Program} {t : TypeId} (h : eqT P t .nilFunc = true) : ∃ a b c, P.underlying t = some (.func a b c) := by
  unfold eqT at h; split at h <;> simp_all
theorem eqT_func {P : Program} {t : TypeId} {f x c} (h : eqT P t (.func f x c) = true) : ∃ a b c, P.underlying t = some (.func a b c) := by
  unfold eqT at h; split at h <;> simp_all
theorem eqT_nilIface {P : Program} {t : TypeId} (h : eqT P t .nilIface = true) : ∃ a, P.underlying t = some (.interface a) := by
  unfold eqT at h; split at h <;> simp_all
theorem eqT_iface {P : Program} {t : TypeId} {d v} (h : eqT P t (.iface d v) = true) : ∃ a, P.underlying t = some (.interface a) := by
  unfold eqT at h; split at h <;> simp_all

theorem eqA_ok {P : Program} {φ : Phi} {t : TypeId} {x y : AV} {x' y' : Value} {b : Bool} (h : eqA P t x y = some b) (ht : eqT P t x = true) (hx : VRel φ x x') (hy : VRel φ y y')
    (n : Nat) (hn : 100 ≤ n) (w : World) : (Op.equalIn (n + 1) t x' y').run P w = .ok b w := by
  cases hx with
  | bool a =>
    have hu := eqT_bool ht
    cases hy <;> simp only [eqA, Option.some.injEq, reduceCtorEq] at h
    subst h
    simp only [Op.equalIn, Sem.run_bind, run_underlying hu, Result.andThen_ok, Sem.run_pure]
  | ptrNil =>
    obtain ⟨e, hu⟩ := eqT_ptr ht
    cases hy <;> simp only [eqA, Option.some.injEq, reduceCtorEq] at h <;> subst h <;>
      simp only [Op.equalIn, Sem.run_bind, run_underlying hu, Result.andThen_ok, Sem.run_pure] <;> rfl
  | ptr h1 =>
    rename_i b1 off R s l
    obtain ⟨e, hu⟩ := eqT_ptr ht
    cases hy with
    | ptrNil =>
      simp only [eqA, Option.some.injEq] at h
      subst h
      simp only [Op.equalIn, Sem.run_bind, run_underlying hu, Result.andThen_ok, Sem.run_pure]
    | ptr h2 =>
      rename_i b2 off2 R2 s2 l2
      simp only [eqA, hu] at h
      cases hc : (!Nat.beq (sz P e) 0 && Nat.beq b1 b2) with
      | false => rw [hc] at h; cases h
      | true =>
        rw [hc] at h
        simp only [cond_true, Option.some.injEq] at h
        subst h
        simp only [Bool.and_eq_true, Bool.not_eq_true'] at hc
        have hz := Nat.ne_of_beq_eq_false hc.1
        obtain rfl := Nat.eq_of_beq_eq_true hc.2
        rw [h1] at h2
        cases h2
        simp only [Op.equalIn, Sem.run_bind, run_underlying hu, Result.andThen_ok, sizeOf_ok (sz_info hz), hz, ne_eq, not_false_eq_true, if_true, sameAddr, beq_self_eq_true, Sem.run_pure]
        congr 1
        rw [Bool.eq_iff_iff]
        simp only [beq_iff_eq, Addr.mk.injEq, true_and, and_true]
        constructor
        · intro hh; rw [show off = off2 by omega]; exact Nat.beq_refl _
        · intro hh; rw [Nat.eq_of_beq_eq_true hh]
    | _ => simp only [eqA, reduceCtorEq] at h
  | sliceNil =>
    obtain ⟨e, hu⟩ := eqT_slice ht
    cases hy <;> simp only [eqA, Option.some.injEq, reduceCtorEq] at h <;> subst h <;>
      simp only [Op.equalIn, Sem.run_bind, run_underlying hu, Result.andThen_ok, Sem.run_pure] <;> rfl
  | slice =>
    obtain ⟨e, hu⟩ := eqT_slice ht
    cases hy <;> simp only [eqA, Option.some.injEq, reduceCtorEq] at h <;> subst h <;>
      simp only [Op.equalIn, Sem.run_bind, run_underlying hu, Result.andThen_ok, Sem.run_pure]
  | mapNil =>
    obtain ⟨k, e, hu⟩ := eqT_map ht
    cases hy <;> simp only [eqA, Option.some.injEq, reduceCtorEq] at h <;> subst h <;>
      simp only [Op.equalIn, Sem.run_bind, run_underlying hu, Result.andThen_ok, Sem.run_pure] <;> rfl
  | map =>
    obtain ⟨k, e, hu⟩ := eqT_map ht
    cases hy <;> simp only [eqA, Option.some.injEq, reduceCtorEq] at h <;> subst h <;>
      simp only [Op.equalIn, Sem.run_bind, run_underlying hu, Result.andThen_ok, Sem.run_pure]
  | nilFunc =>
    obtain ⟨i, j, k, hu⟩ := eqT_nilFunc ht
    cases hy <;> simp only [eqA, Option.some.injEq, reduceCtorEq] at h <;> subst h <;>
      simp only [Op.equalIn, Sem.run_bind, run_underlying hu, Result.andThen_ok, Sem.run_pure]
  | func =>
    obtain ⟨i, j, k, hu⟩ := eqT_func ht
    cases hy <;> simp only [eqA, Option.some.injEq, reduceCtorEq] at h <;> subst h <;>
      simp only [Op.equalIn, Sem.run_bind, run_underlying hu, Result.andThen_ok, Sem.run_pure]
  | nilIface =>
    obtain ⟨i, hu⟩ := eqT_nilIface ht
    cases hy <;> simp only [eqA, Option.some.injEq, reduceCtorEq] at h <;> subst h <;>
      simp only [Op.equalIn, Sem.run_bind, run_underlying hu, Result.andThen_ok, Sem.run_pure]
  | iface =>
    obtain ⟨i, hu⟩ := eqT_iface ht
    cases hy <;> simp only [eqA, Option.some.injEq, reduceCtorEq] at h <;> subst h <;>
      simp only [Op.equalIn, Sem.run_bind, run_underlying hu, Result.andThen_ok, Sem.run_pure]
  | agg ha hf =>
    simp only [eqA, aggEq] at h
    cases hg : P.eqGuardType P.depth t with
    | true => rw [hg] at h; cases h
    | false =>
      rw [hg] at h
      simp only [cond_false] at h
      exact eqP_ok 100 (n + 1) t _ y _ y' b h (.agg ha hf) hy (by omega) w
  | _ => simp only [eqA, reduceCtorEq] at h

theorem equalIn_nils {P : Program} {t : TypeId} {i : Array (String × TypeId)} (hu : P.underlying t = some (.interface i)) (n : Nat) (w : World) :
    (Op.equalIn (n + 1) t .nilIface .nilIface).run P w = .ok true w := by
  simp only [Op.equalIn, Sem.run_bind, run_underlying hu, Result.andThen_ok, Sem.run_pure]

/-- equality and its guard -/
theorem binEq_ok {P : Program} {φ : Phi} {t : TypeId} {X Y : Operand} {x y : AV} {x' y' : Value} {b : Bool} (h : binEq P t (isConstOp X || isConstOp Y) x y = some b)
    (hx : VRel φ x x') (hy : VRel φ y y') (op : BinOp) (w : World) : (eqGuard op t X Y x' y').run P w = .ok () w ∧ (Op.equal t x' y').run P w = .ok b w := by
  unfold binEq at h
  cases ht : eqT P t x with
  | false => rw [ht] at h; cases h
  | true =>
    rw [ht] at h
    simp only [cond_true] at h
    split at h
    · cases hc : (isConstOp X || isConstOp Y) with
      | false => rw [hc] at h; cases h
      | true =>
        rw [hc] at h
        simp only [cond_true, Option.some.injEq] at h
        subst h
        cases hx; cases hy
        obtain ⟨i, hu⟩ := eqT_nilIface ht
        constructor
        · cases X <;> cases Y <;> first
            | exact Bool.noConfusion (show false = true from hc)
            | (cases op <;> rfl)
        · exact equalIn_nils hu 9999 w
    · rename_i hnn
      refine ⟨?_, eqA_ok h ht hx hy 9999 (by omega) w⟩
      cases hx with
      | nilIface =>
        cases hy with
        | iface hv => cases op <;> rfl
        | nilIface => exact absurd rfl (hnn rfl)
        | _ => simp only [eqA, reduceCtorEq] at h
      | agg ha hf =>
        simp only [eqA, aggEq] at h
        cases hgt : P.eqGuardType P.depth t with
        | true => rw [hgt] at h; cases h
        | false =>
          cases y' <;> first
            | exact run_eqGuard_agg w op t X Y _ _ hgt
            | (cases op <;> rfl)
      | any => simp only [eqA, reduceCtorEq] at h
      | _ => exact eqGuard_ok op t X Y _ _ (by simp) (by simp) w

theorem binA_ok {P : Program} {φ : Phi} {op : BinOp} {t : TypeId} {X Y : Operand} {x y : AV} {x' y' : Value} {r : AV} (h : binA P op t (isConstOp X || isConstOp Y) x y = some r)
    (hx : VRel φ x x') (hy : VRel φ y y') : Gives P φ r (do eqGuard op t X Y x' y'; binOp op t x' y') := by
  have key : ∀ {b : Bool}, (binEq P t (isConstOp X || isConstOp Y) x y = some b) → (∀ (a : IntKind) (n : Int), x ≠ .int a n) → (∀ s, x ≠ .str s) → (∀ (a : FloatKind) n, x ≠ .float a n) →
      (∀ (a : FloatKind) n m, x ≠ .complex a n m) → (op = .eql → Gives P φ (.bool b) (do eqGuard op t X Y x' y'; binOp op t x' y')) ∧ (op = .neq → Gives P φ (.bool !b) (do eqGuard op t X Y x' y'; binOp op t x' y')) := by
    intro b hb n1 n2 n3 n4
    have hne : x ≠ .any := by rintro rfl; simp [binEq, eqT] at hb
    constructor
    · rintro rfl
      refine ⟨_, .bool b, fun w => ?_⟩
      obtain ⟨g1, g2⟩ := binEq_ok hb hx hy .eql w
      rw [Sem.run_bind, g1]
      simp only [Result.andThen_ok]
      have : (binOp .eql t x' y').run P w = ((Op.equal t x' y').run P w).andThen fun b w' => .ok (.bool b) w' := by
        cases hx <;> first
          | exact absurd rfl (n1 _ _)
          | exact absurd rfl (n2 _)
          | exact absurd rfl (n3 _ _)
          | exact absurd rfl (n4 _ _ _)
          | exact absurd rfl hne
          | (simp only [binOp, Sem.run_bind, Sem.run_pure]; done)
          | (cases y' <;> simp only [binOp, Sem.run_bind, Sem.run_pure])
      rw [this, g2]; rfl
    · rintro rfl
      refine ⟨_, .bool (!b), fun w => ?_⟩
      obtain ⟨g1, g2⟩ := binEq_ok hb hx hy .neq w
      rw [Sem.run_bind, g1]
      simp only [Result.andThen_ok]
      have : (binOp .neq t x' y').run P w = ((Op.equal t x' y').run P w).andThen fun b w' => .ok (.bool !b) w' := by
        cases hx <;> first
          | exact absurd rfl (n1 _ _)
          | exact absurd rfl (n2 _)
          | exact absurd rfl (n3 _ _)
          | exact absurd rfl (n4 _ _ _)
          | exact absurd rfl hne
          | (simp only [binOp, Sem.run_bind, Sem.run_pure]; done)
          | (cases y' <;> simp only [binOp, Sem.run_bind, Sem.run_pure])
      rw [this, g2]; rfl
  have guard : ∀ {m : Sem Value}, x' ≠ .nilIface → (∀ z, x' ≠ .agg z) → Gives P φ r m → Gives P φ r (do eqGuard op t X Y x' y'; m) := by
    rintro m g1 g2 ⟨v, hv, hr⟩
    refine ⟨v, hv, fun w => ?_⟩
    rw [Sem.run_bind, eqGuard_ok op t X Y x' y' g1 g2 w]
    exact hr w
  cases hx with
  | int k a =>
    cases hy with
    | int k' b =>
      apply guard (by simp) (by simp)
      simp only [binA] at h
      split at h
      · exact shiftA_ok h (.inl rfl)
      · exact shiftA_ok h (.inr rfl)
      · rename_i n1 n2
        cases hk : kindEq k k' with
        | false => rw [hk] at h; cases h
        | true =>
          rw [hk] at h
          obtain rfl := kindEq_eq hk
          exact intBin_ok h (by rintro rfl; exact n1 rfl) (by rintro rfl; exact n2 rfl)
    | _ => simp only [binA, reduceCtorEq] at h
  | str a =>
    cases hy <;> simp only [binA, reduceCtorEq] at h
    rename_i b
    exact guard (by simp) (by simp) (strBin_ok h)
  | float k a =>
    cases hy <;> simp only [binA, reduceCtorEq] at h
    exact guard (by simp) (by simp) (pureBind_ok h)
  | complex k a b =>
    cases hy <;> simp only [binA, reduceCtorEq] at h
    exact guard (by simp) (by simp) (pureBind_ok h)
  | _ =>
    simp only [binA] at h
    split at h
    · cases hb : binEq P t (isConstOp X || isConstOp Y) _ y with
      | none => rw [hb] at h; cases h
      | some b =>
        rw [hb] at h
        simp only [Option.map_some, Option.some.injEq] at h
        subst h
        exact (key hb (by simp) (by simp) (by simp) (by simp)).1 rfl
    · cases hb : binEq P t (isConstOp X || isConstOp Y) _ y with
      | none => rw [hb] at h; cases h
      | some b =>
        rw [hb] at h
        simp only [Option.map_some, Option.some.injEq] at h
        subst h
        exact (key hb (by simp) (by simp) (by simp) (by simp)).2 rfl
    · cases h

end Go.Ae

/- Operations that touch no memory: choices, addresses, fields, elements, assertions, aggregates, slices. -/
namespace Go.Ae
open Go

theorem hUn_ok {P : Program} {φ : Phi} {op : UnOp} {x : AV} {x' : Value} {r : AV} (h : hUn P op x = some r) (hx : VRel φ x x') : Gives P φ r (Op.unary op x') := by
  cases hx with
  | bool b =>
    cases op <;> simp only [hUn, reduceCtorEq, Option.some.injEq] at h
    subst h
    exact ⟨_, .bool _, fun _ => rfl⟩
  | int k n => simp only [hUn, AV.sc] at h; exact pureBind_ok h
  | float k n => simp only [hUn, AV.sc] at h; exact pureBind_ok h
  | complex k a b => simp only [hUn, AV.sc] at h; exact pureBind_ok h
  | _ => simp only [hUn, AV.sc, reduceCtorEq] at h

theorem hPick_ok {P : Program} {φ : Phi} {c a b : AV} {c' a' b' : Value} {r : AV} (h : hPick c a b = some r) (hc : VRel φ c c') (ha : VRel φ a a') (hb : VRel φ b b') :
    Gives P φ r (do if ← asBool c' then pure a' else pure b') := by
  cases hc <;> simp only [hPick, reduceCtorEq] at h
  rename_i t
  cases t <;> simp only [Option.some.injEq] at h <;> subst h
  · exact ⟨_, hb, fun w => by simp [asBool]⟩
  · exact ⟨_, ha, fun w => by simp [asBool]⟩

theorem hIface_ok {P : Program} {φ : Phi} {t : TypeId} {x : AV} {x' : Value} {r : AV} (h : hIface P t x = some r) (hx : VRel φ x x') : Gives P φ r (Instr.makeInterface t x') := by
  unfold hIface at h
  split at h
  · cases h
  · rename_i d hn hu
    simp only [Option.some.injEq] at h
    subst h
    refine ⟨_, .iface hx, fun w => ?_⟩
    have : (match d with | .interface _ => stuck "MakeInterface: a concrete type expected" | _ => (pure (.iface t x') : Sem Value)) = pure (.iface t x') := by
      cases d <;> first | rfl | exact absurd rfl (hn _)
    simp only [Instr.makeInterface, Sem.run_bind, run_underlying hu, Result.andThen_ok, Sem.run_pure]
  · cases h

theorem hFieldAddr_ok {P : Program} {φ : Phi} {s : TypeId} {x : AV} {x' : Value} {f : Nat} {r : AV} (h : hFieldAddr P s x f = some r) (hx : VRel φ x x') : Gives P φ r (Instr.fieldAt s x' f) := by
  cases hx <;> simp only [hFieldAddr, reduceCtorEq] at h
  rename_i b off R st l hφ
  split at h
  · rename_i fs hu
    split at h
    · rename_i fd hf
      cases hz : Nat.beq (sz P fd.type) 0 with
      | true => rw [hz] at h; cases h
      | false =>
        rw [hz] at h
        simp only [cond_false, Option.some.injEq] at h
        subst h
        have hz := Nat.ne_of_beq_eq_false hz
        refine ⟨.pointer (some ⟨R, st + (off + fd.offset), none⟩), .ptr hφ, fun w => ?_⟩
        simp only [Instr.fieldAt, Sem.run_bind, run_underlying hu, Result.andThen_ok, hf, Instr.sureAddr, Sem.run_pure, fieldPlace, sizeOf_ok (sz_info hz), Sem.run_ite, hz, if_false, Addr.add_mid]
        simp [Nat.add_assoc]
    · cases h
  · cases h

theorem hField_ok {P : Program} {φ : Phi} {t : TypeId} {x : AV} {x' : Value} {f : Nat} {r : AV} (h : hField P t x f = some r) (hx : VRel φ x x') : Gives P φ r (Instr.field t x' f) := by
  cases hx <;> simp only [hField, reduceCtorEq] at h
  rename_i a a' ha hf
  split at h
  · rename_i fs hu
    split at h
    · rename_i fd hfd
      obtain ⟨v, hv, hr⟩ := partA_ok h ha hf
      refine ⟨v, hv, fun w => ?_⟩
      simp only [Instr.field, Sem.run_bind, run_underlying hu, Result.andThen_ok, hfd, asAgg, Sem.run_pure, hr]
    · cases h
  · cases h

theorem asNat_ok {x : AV} {n : Nat} {φ : Phi} {x' : Value} (h : asNat x = some n) (hx : VRel φ x x') : ∃ k, x' = .int k (n : Int) := by
  cases hx <;> simp only [asNat, reduceCtorEq] at h
  rename_i k m
  cases m with
  | ofNat m => simp only [Option.some.injEq] at h; subst h; exact ⟨k, rfl⟩
  | negSucc m => cases h

theorem szEq_ok {P : Program} {t : TypeId} {n : Nat} (h : szEq P t n = true) : P.info? t ≠ none ∧ n = sz P t := by
  unfold szEq at h
  split at h
  · rename_i i hi
    exact ⟨by rw [hi]; simp, by rw [Nat.eq_of_beq_eq_true h]; simp [sz, Program.cellsOf, hi]⟩
  · cases h

theorem asIntOf_ok {k : IntKind} {n : Nat} {P : Program} (w : World) : (asIntOf (.int k (n : Int))).run P w = .ok (k, (n : Int)) w := rfl

theorem hIndexAddr_ok {P : Program} {φ : Phi} {t : TypeId} {x i : AV} {x' i' : Value} {r : AV} (h : hIndexAddr P t x i = some r) (hx : VRel φ x x') (hi : VRel φ i i') :
    Gives P φ r (Instr.indexAt t x' i') := by
  unfold hIndexAddr at h
  split at h
  · cases h
  · rename_i n hn
    obtain ⟨k, rfl⟩ := asNat_ok hn hi
    split at h
    · rename_i b off len c z e
      obtain ⟨R, s, l, a, cap', rfl, hφ, hc, he, hl, hb, ha⟩ := hx.slice_inv
      split at h
      · rename_i el hu
        cases hq : (Nat.blt n len && szEq P el z) with
        | false => rw [hq] at h; cases h
        | true =>
          rw [hq] at h
          simp only [cond_true, Option.some.injEq] at h
          subst h
          simp only [Bool.and_eq_true] at hq
          have hlt := blt_lt hq.1
          obtain ⟨hi1, rfl⟩ := szEq_ok hq.2
          have ha' := ha (by omega)
          subst ha'
          refine ⟨.pointer (some ⟨R, s + (off + n * sz P el), none⟩), .ptr hφ, fun w => ?_⟩
          have hcond : (0 : Int) ≤ (n : Int) ∧ (n : Int) < (len : Int) := by omega
          simp only [Instr.indexAt, Sem.run_bind, asIntOf_ok, Result.andThen_ok, run_underlying hu, Sem.run_pure, Sem.run_ite, hcond, and_self, if_true, sizeOf_ok hi1, Addr.add_mid]
          simp [Nat.add_assoc]
      · cases h
    · rename_i b off
      obtain ⟨R, s, l, rfl, hφ⟩ := hx.ptr_inv
      split at h
      · rename_i m el hu
        cases hq : (Nat.blt n m && szEq P el (sz P el)) with
        | false => rw [hq] at h; cases h
        | true =>
          rw [hq] at h
          simp only [cond_true, Option.some.injEq] at h
          subst h
          simp only [Bool.and_eq_true] at hq
          have hlt := blt_lt hq.1
          obtain ⟨hi1, _⟩ := szEq_ok hq.2
          refine ⟨.pointer (some ⟨R, s + (off + n * sz P el), none⟩), .ptr hφ, fun w => ?_⟩
          have hcond : (0 : Int) ≤ (n : Int) ∧ (n : Int) < (m : Int) := by omega
          simp only [Instr.indexAt, Sem.run_bind, asIntOf_ok, Result.andThen_ok, run_underlying hu, Sem.run_pure, Instr.sureAddr, Sem.run_ite, hcond, and_self, if_true, sizeOf_ok hi1, Addr.add_mid]
          simp [Nat.add_assoc]
      · cases h
    · cases h

theorem bytesOfStr_get {s : ByteArray} {n b : Nat} (h : (bytesOfStr s)[n]? = some b) : ∃ u, s[n]? = some u ∧ u.toNat = b := by
  unfold bytesOfStr at h
  rw [List.getElem?_map] at h
  cases hg : s.data.toList[n]? with
  | none => rw [hg] at h; cases h
  | some u =>
    rw [hg] at h
    simp only [Option.map_some, Option.some.injEq] at h
    refine ⟨u, ?_, h⟩
    obtain ⟨hn, hv⟩ := List.getElem?_eq_some_iff.1 hg
    have hn' : n < s.size := by simpa using hn
    rw [getElem?_pos s n hn']
    congr 1

theorem hIndex_ok {P : Program} {φ : Phi} {t : TypeId} {x i : AV} {x' i' : Value} {r : AV} (h : hIndex P t x i = some r) (hx : VRel φ x x') (hi : VRel φ i i') :
    Gives P φ r (Instr.index t x' i') := by
  unfold hIndex at h
  split at h
  · cases h
  · rename_i n hn
    obtain ⟨k, rfl⟩ := asNat_ok hn hi
    split at h
    · obtain ⟨s, rfl, rfl⟩ := hx.str_inv
      split at h
      · rename_i hst
        split at h
        · rename_i b hb
          simp only [Option.some.injEq] at h
          subst h
          obtain ⟨u, hu1, hu2⟩ := bytesOfStr_get hb
          refine ⟨.int .u8 (Int.ofNat b), .int _ _, fun w => ?_⟩
          have h0 : (0 : Int) ≤ (n : Int) := by omega
          simp only [Instr.index, Sem.run_bind, asIntOf_ok, Result.andThen_ok, run_underlying hst, h0, if_true, Int.toNat_natCast, hu1, Sem.run_pure, hu2]
          rfl
        · cases h
      · cases h
    · obtain ⟨cs', rfl, hcs, hf⟩ := hx.agg_inv
      split at h
      · rename_i m el hu
        cases hq : (Nat.blt n m && szEq P el (sz P el)) with
        | false => rw [hq] at h; cases h
        | true =>
          rw [hq] at h
          simp only [cond_true] at h
          simp only [Bool.and_eq_true] at hq
          have hlt := blt_lt hq.1
          obtain ⟨hi1, _⟩ := szEq_ok hq.2
          obtain ⟨v, hv, hr⟩ := partA_ok h hcs hf
          refine ⟨v, hv, fun w => ?_⟩
          have hcond : (0 : Int) ≤ (n : Int) ∧ (n : Int) < (m : Int) := by omega
          simp only [Nat.mul_eq] at hr
          simp only [Instr.index, Sem.run_bind, asIntOf_ok, Result.andThen_ok, run_underlying hu, hcond, and_self, if_true, sizeOf_ok hi1, Int.toNat_natCast, hr]
      · cases h
    · cases h

theorem hExtract_ok {P : Program} {φ : Phi} {x : AV} {x' : Value} {n : Nat} {r : AV} (h : hExtract x n = some r) (hx : VRel φ x x') : Gives P φ r (Instr.extract x' n) := by
  cases hx <;> simp only [hExtract, reduceCtorEq] at h
  rename_i vs vs' hv
  obtain ⟨y, hy, hr⟩ := hv.get _ _ h
  have hy' : vs'[n]? = some y := by simpa using hy
  exact ⟨y, hr, fun w => by simp [Instr.extract, hy']⟩

theorem oneCells_ok : ∀ {l : List Value}, oneCells l = true → ∀ u ∈ l, Flat u
  | [], _, u, h => by cases h
  | v :: l, h, u, hu => by
    cases hu with
    | head => cases v <;> first | rfl | (simp only [oneCells, Bool.false_eq_true] at h)
    | tail _ hu => exact oneCells_ok (l := l) (by cases v <;> first | exact h | (simp only [oneCells, Bool.false_eq_true] at h)) u hu

mutual
theorem ofConst_ok {φ : Phi} : ∀ (d : Nat) (v : Value) (a : AV), ofConst d v = some a → VRel φ a v
  | 0, v, a, h => by simp [ofConst] at h
  | d + 1, v, a, h => by
    cases v with
    | bool b => simp only [ofConst, Option.some.injEq] at h; subst h; exact .bool _
    | int k n => simp only [ofConst, Option.some.injEq] at h; subst h; exact .int _ _
    | float k n => simp only [ofConst, Option.some.injEq] at h; subst h; exact .float _ _
    | complex k n m => simp only [ofConst, Option.some.injEq] at h; subst h; exact .complex _ _ _
    | string s => simp only [ofConst, Option.some.injEq] at h; subst h; exact .str _
    | pointer p => cases p <;> simp only [ofConst, Option.some.injEq, reduceCtorEq] at h; subst h; exact .ptrNil
    | slice p l c =>
      cases p with
      | none =>
        cases l with
        | zero =>
          cases c with
          | zero => simp only [ofConst, Option.some.injEq] at h; subst h; exact .sliceNil _ _ _ _
          | succ c => simp only [ofConst, reduceCtorEq] at h
        | succ l => simp only [ofConst, reduceCtorEq] at h
      | some p => simp only [ofConst, reduceCtorEq] at h
    | map p => cases p <;> simp only [ofConst, Option.some.injEq, reduceCtorEq] at h; subst h; exact .mapNil
    | nilFunc => simp only [ofConst, Option.some.injEq] at h; subst h; exact .nilFunc
    | nilIface => simp only [ofConst, Option.some.injEq] at h; subst h; exact .nilIface
    | agg cs =>
      simp only [ofConst] at h
      cases ho : oneCells cs.toList with
      | false => rw [ho] at h; cases h
      | true =>
        rw [ho] at h
        simp only [cond_true] at h
        cases hc : ofConsts d cs.toList with
        | none => rw [hc] at h; cases h
        | some l =>
          rw [hc] at h
          simp only [Option.map_some, Option.some.injEq] at h
          subst h
          exact .agg (ofConsts_ok d _ l hc) (oneCells_ok ho)
    | tuple cs =>
      simp only [ofConst] at h
      cases hc : ofConsts d cs.toList with
      | none => rw [hc] at h; cases h
      | some l =>
        rw [hc] at h
        simp only [Option.map_some, Option.some.injEq] at h
        subst h
        exact .tuple (ofConsts_ok d _ l hc)
    | _ => simp only [ofConst, reduceCtorEq] at h
theorem ofConsts_ok {φ : Phi} : ∀ (d : Nat) (v : List Value) (a : List AV), ofConsts d v = some a → VRels φ a v
  | d, [], a, h => by cases d <;> (simp only [ofConsts, Option.some.injEq] at h; subst h; exact .nil)
  | 0, _ :: _, a, h => by simp [ofConsts] at h
  | d + 1, v :: vs, a, h => by
    simp only [ofConsts] at h
    split at h
    · rename_i x l hx hl
      simp only [Option.some.injEq] at h
      subst h
      exact .cons (ofConst_ok d v x hx) (ofConsts_ok d vs l hl)
    · cases h
end

theorem cst_ok {φ : Phi} (v : Value) : VRel φ (cst v) v := by
  unfold cst
  cases h : ofConst cstFuel v with
  | none => exact .any v
  | some a => exact ofConst_ok _ _ _ h

theorem zeroV_ok {P : Program} {φ : Phi} {t : TypeId} {z : AV} (h : zeroV P t = some z) : ∃ v i, P.info? t = some i ∧ i.zero = some v ∧ VRel φ z v ∧ ∀ w, (zeroValue t).run P w = .ok v w := by
  unfold zeroV at h
  cases hi : P.info? t with
  | none => rw [hi] at h; cases h
  | some i =>
    rw [hi] at h
    simp only [Option.bind_some] at h
    cases hz : i.zero with
    | none => rw [hz] at h; cases h
    | some v =>
      rw [hz] at h
      exact ⟨v, i, rfl, hz, ofConst_ok _ _ _ h, fun w => by simp [zeroValue, typeInfo, hi, hz]⟩

theorem cells_ok {φ : Phi} {x : AV} {x' : Value} {cs : List AV} (h : x.cells = some cs) (hx : VRel φ x x') : VRels φ cs x'.cells.toList ∧ ∀ u ∈ x'.cells.toList, Flat u := by
  have single : ∀ {y : AV} {y' : Value}, VRel φ y y' → Flat y' → (∀ a, y' ≠ .agg a) → VRels φ [y] y'.cells.toList ∧ ∀ u ∈ y'.cells.toList, Flat u := by
    intro y y' hy hf hn
    have : y'.cells = #[y'] := by cases y' <;> first | rfl | exact absurd rfl (hn _)
    rw [this]
    exact ⟨.cons hy .nil, fun u hu => by simp at hu; subst hu; exact hf⟩
  cases hx <;> simp only [AV.cells, Option.some.injEq, reduceCtorEq] at h <;> subst h <;> first
    | exact single (by constructor <;> assumption) rfl (by simp)
    | (constructor <;> assumption)
    | exact single (by constructor) rfl (by simp)

theorem cellsOf_ok {P : Program} {φ : Phi} {t : TypeId} {x : AV} {x' : Value} {cs : List AV} (h : cellsOf P t x = some cs) (hx : VRel φ x x') :
    VRels φ cs x'.cells.toList ∧ (∀ u ∈ x'.cells.toList, Flat u) ∧ cs.length = sz P t ∧ x'.cells.size = sz P t := by
  unfold cellsOf at h
  split at h
  · rename_i c hc
    cases hb : Nat.beq c.length (sz P t) with
    | false => rw [hb] at h; cases h
    | true =>
      rw [hb] at h
      simp only [cond_true, Option.some.injEq] at h
      subst h
      obtain ⟨h1, h2⟩ := cells_ok hc hx
      have hl := Nat.eq_of_beq_eq_true hb
      have := h1.length
      simp only [Array.length_toList] at this
      exact ⟨h1, h2, hl, by omega⟩
  · cases h

theorem zeroC_ok {P : Program} {φ : Phi} {t : TypeId} {z : List AV} (h : zeroC P t = some z) : ∃ v i, P.info? t = some i ∧ i.zero = some v ∧ VRels φ z v.cells.toList ∧ (∀ u ∈ v.cells.toList, Flat u) ∧
    z.length = sz P t ∧ v.cells.size = sz P t ∧ ∀ w, (zeroValue t).run P w = .ok v w := by
  unfold zeroC at h
  split at h
  · rename_i x hx
    obtain ⟨v, i, h1, h2, h3, h4⟩ := zeroV_ok (φ := φ) hx
    obtain ⟨k1, k2, k3, k4⟩ := cellsOf_ok h h3
    exact ⟨v, i, h1, h2, k1, k2, k3, k4, h4⟩
  · cases h

end Go.Ae

/- Assertions, aggregates, slices, conversions. -/
namespace Go.Ae
open Go

theorem failA_ok {P : Program} {φ : Phi} {t : TypeId} {ok : Bool} {r : AV} (h : failA P t ok = some r) :
    ok = true ∧ ∃ v z, VRel φ r v ∧ v = .tuple #[z, .bool false] ∧ ∀ w, (zeroValue t).run P w = .ok z w := by
  cases ok with
  | false => cases h
  | true =>
    simp only [failA, cond_true] at h
    split at h
    · rename_i z hz
      simp only [Option.some.injEq] at h
      subst h
      obtain ⟨v, _, _, _, h3, h4⟩ := zeroV_ok (φ := φ) hz
      exact ⟨rfl, _, v, .tuple (.cons h3 (.cons (.bool _) .nil)), rfl, h4⟩
    · cases h

theorem holdA_ok {P : Program} {φ : Phi} {ok : Bool} {v : AV} {v' : Value} (h : VRel φ v v') : Gives P φ (holdA ok v) (pure (if ok then .tuple #[v', .bool true] else v')) := by
  cases ok with
  | false => exact ⟨_, h, fun _ => rfl⟩
  | true => exact ⟨_, .tuple (.cons h (.cons (.bool _) .nil)), fun _ => rfl⟩

theorem hAssert_ok {P : Program} {φ : Phi} {t xt : TypeId} {ok : Bool} {x : AV} {x' : Value} {r : AV} (h : hAssert P t ok x = some r) (hx : VRel φ x x') :
    Gives P φ r (Instr.typeAssert x' xt t ok) := by
  unfold hAssert at h
  split at h
  · rename_i want hu
    split at h
    · rename_i d v
      obtain ⟨v', rfl, hv⟩ := hx.iface_inv
      split at h
      · rename_i inf hi
        split at h
        · rename_i hm
          simp only [Option.some.injEq] at h
          subst h
          obtain ⟨u, h1, h2⟩ := holdA_ok (P := P) (ok := ok) (VRel.iface (t := d) hv)
          refine ⟨u, h1, fun w => ?_⟩
          simp only [Instr.typeAssert, Sem.run_bind, run_underlying hu, Result.andThen_ok, typeInfo, run_program, hi, Sem.run_pure, hm]
          exact h2 w
        · rename_i m hm
          obtain ⟨rfl, u, z, h1, rfl, h2⟩ := failA_ok (φ := φ) h
          refine ⟨_, h1, fun w => ?_⟩
          simp only [Instr.typeAssert, Sem.run_bind, run_underlying hu, Result.andThen_ok, typeInfo, run_program, hi, Sem.run_pure, hm, if_true, h2]
      · cases h
    · cases hx
      obtain ⟨rfl, u, z, h1, rfl, h2⟩ := failA_ok (φ := φ) h
      refine ⟨_, h1, fun w => ?_⟩
      simp only [Instr.typeAssert, Sem.run_bind, run_underlying hu, Result.andThen_ok, Sem.run_pure, if_true, h2]
    · cases h
  · rename_i d hn hu
    split at h
    · rename_i e v
      obtain ⟨v', rfl, hv⟩ := hx.iface_inv
      cases hb : Nat.beq e t with
      | true =>
        rw [hb] at h
        simp only [cond_true, Option.some.injEq] at h
        subst h
        obtain ⟨u, h1, h2⟩ := holdA_ok (P := P) (ok := ok) hv
        refine ⟨u, h1, fun w => ?_⟩
        have he := Nat.eq_of_beq_eq_true hb
        cases d <;> first
          | exact absurd rfl (hn _)
          | (simp only [Instr.typeAssert, Sem.run_bind, run_underlying hu, Result.andThen_ok, he, if_true]; exact h2 w)
      | false =>
        rw [hb] at h
        simp only [cond_false] at h
        obtain ⟨rfl, u, z, h1, rfl, h2⟩ := failA_ok (φ := φ) h
        refine ⟨_, h1, fun w => ?_⟩
        have he := Nat.ne_of_beq_eq_false hb
        cases d <;> first
          | exact absurd rfl (hn _)
          | (simp only [Instr.typeAssert, Sem.run_bind, run_underlying hu, Result.andThen_ok, he, if_false, if_true, Sem.run_pure, h2])
    · cases hx
      obtain ⟨rfl, u, z, h1, rfl, h2⟩ := failA_ok (φ := φ) h
      refine ⟨_, h1, fun w => ?_⟩
      cases d <;> first
        | exact absurd rfl (hn _)
        | (simp only [Instr.typeAssert, Sem.run_bind, run_underlying hu, Result.andThen_ok, if_true, Sem.run_pure, h2])
    · cases h
  · cases h

/-- parts of an aggregate, at both -/
inductive PRel (φ : Phi) : List (Nat × AV) → List (Nat × Value) → Prop
  | nil : PRel φ [] []
  | cons {i : Nat} {v : AV} {v' : Value} {l : List (Nat × AV)} {l' : List (Nat × Value)} (h : VRel φ v v') (t : PRel φ l l') : PRel φ ((i, v) :: l) ((i, v') :: l')

theorem foldl_set (off : Nat) : ∀ (vs : List Value) (j : Nat) (cs : Array Value) (i : Nat),
    ((vs.zipIdx j).foldl (fun cs (p : Value × Nat) => cs.setIfInBounds (off + p.2) p.1) cs).size = cs.size ∧
    ((vs.zipIdx j).foldl (fun cs (p : Value × Nat) => cs.setIfInBounds (off + p.2) p.1) cs)[i]? = if off + j ≤ i ∧ i < off + j + vs.length ∧ i < cs.size then vs[i - (off + j)]? else cs[i]?
  | [], j, cs, i => by simp; omega
  | v :: vs, j, cs, i => by
    simp only [List.zipIdx_cons, List.foldl_cons]
    obtain ⟨h1, h2⟩ := foldl_set off vs (j + 1) (cs.setIfInBounds (off + j) v) i
    refine ⟨by rw [h1]; simp, ?_⟩
    rw [h2]
    simp only [Array.size_setIfInBounds, List.length_cons]
    by_cases hi : i = off + j
    · subst hi
      rw [if_neg (by omega)]
      by_cases hc : off + j < cs.size
      · rw [if_pos (by omega)]; simp [hc]
      · rw [if_neg (by omega)]; simp [hc]
    · by_cases hc : off + (j + 1) ≤ i ∧ i < off + (j + 1) + vs.length ∧ i < cs.size
      · rw [if_pos hc, if_pos (by omega), show i - (off + j) = (i - (off + (j + 1))) + 1 by omega]; simp
      · rw [if_neg hc, if_neg (by omega), Array.getElem?_setIfInBounds_ne (Ne.symm hi)]

theorem fill_ok {φ : Phi} {place : Nat → Option (Nat × Nat)} : ∀ {ps : List (Nat × AV)} {ps' : List (Nat × Value)} {cs r : List AV} {cs' : Array Value}, fill place cs ps = some r → PRel φ ps ps' →
    VRels φ cs cs'.toList → (∀ u ∈ cs'.toList, Flat u) → ∃ r', Instr.fill place cs' ps' = some r' ∧ VRels φ r r'.toList ∧ (∀ u ∈ r'.toList, Flat u) := by
  intro ps
  induction ps with
  | nil =>
    intro ps' cs r cs' h hp hc hf
    cases hp
    simp only [fill, Option.some.injEq] at h
    subst h
    exact ⟨cs', rfl, hc, hf⟩
  | cons p ps ih =>
    intro ps' cs r cs' h hp hc hf
    cases hp
    rename_i i v v' l' hv ht
    simp only [fill] at h
    split at h
    · cases h
    · rename_i off size hpl
      split at h
      · rename_i vs hvs
        cases hb : Nat.beq vs.length size with
        | false => rw [hb] at h; cases h
        | true =>
          rw [hb] at h
          simp only [cond_true] at h
          split at h
          · rename_i cs1 hpa
            have hl := Nat.eq_of_beq_eq_true hb
            obtain ⟨k1, k2⟩ := cells_ok hvs hv
            obtain ⟨p1, p2, p3⟩ := paste_some _ _ _ _ hpa
            have hlen := k1.length
            have hclen := hc.length
            simp only [Array.length_toList] at hlen hclen
            have g := fun i => foldl_set off v'.cells.toList 0 cs' i
            have hz : v'.cells.zipIdx.foldl (fun cs (x : Value × Nat) => match x with | (c, j) => cs.setIfInBounds (off + j) c) cs' =
                (v'.cells.toList.zipIdx 0).foldl (fun cs (p : Value × Nat) => cs.setIfInBounds (off + p.2) p.1) cs' := by
              rw [← Array.foldl_toList]
              simp only [Array.toList_zipIdx]
            generalize hC : (v'.cells.toList.zipIdx 0).foldl (fun cs (p : Value × Nat) => cs.setIfInBounds (off + p.2) p.1) cs' = C at g hz
            have hCs : C.size = cs'.size := (g 0).1
            have hfit : ¬ (v'.cells.size ≠ size ∨ off + v'.cells.size > cs'.size) := by omega
            have hget : ∀ j, C[j]? = if off ≤ j ∧ j < off + vs.length then v'.cells.toList[j - off]? else cs'[j]? := by
              intro j
              rw [(g j).2]
              simp only [Nat.add_zero, Array.length_toList]
              by_cases hr : off ≤ j ∧ j < off + vs.length
              · rw [if_pos hr, if_pos (by omega)]
              · rw [if_neg hr, if_neg (by omega)]
            have hv2 : VRels φ cs1 C.toList := by
              refine VRels.of_get (by simp only [Array.length_toList]; omega) fun j x y hx hy => ?_
              simp only [Array.getElem?_toList, hget] at hy
              rw [p3] at hx
              by_cases hr : off ≤ j ∧ j < off + vs.length
              · rw [if_pos hr] at hx hy
                obtain ⟨y', e1, e2⟩ := k1.get _ _ hx
                simp only [Array.getElem?_toList, hy] at e1
                cases e1; exact e2
              · rw [if_neg hr] at hx hy
                obtain ⟨y', e1, e2⟩ := hc.get _ _ hx
                simp only [Array.getElem?_toList, hy] at e1
                cases e1; exact e2
            have hf2 : ∀ u ∈ C.toList, Flat u := by
              intro u hu
              obtain ⟨j, hj⟩ := List.getElem?_of_mem hu
              simp only [Array.getElem?_toList, hget] at hj
              split at hj
              · exact k2 u (List.mem_of_getElem? (i := j - off) (by simpa using hj))
              · exact hf u (List.mem_of_getElem? (by simpa using hj))
            obtain ⟨r', r1, r2, r3⟩ := ih h ht hv2 hf2
            refine ⟨r', ?_, r2, r3⟩
            simp only [Instr.fill, hpl]
            rw [if_neg (by simpa using hfit), hz]
            exact r1
          · cases h
      · cases h

theorem knownFs_ok {P : Program} : ∀ {fs : List Field}, knownFs P fs = true → ∀ f ∈ fs, P.info? f.type ≠ none
  | [], _, f, h => by cases h
  | g :: fs, h, f, hf => by
    simp only [knownFs, Bool.and_eq_true] at h
    cases hf with
    | head => exact (szEq_ok h.1).1
    | tail _ hf => exact knownFs_ok h.2 f hf

theorem mapM_places {P : Program} (w : World) : ∀ (fs : List Field), (∀ f ∈ fs, P.info? f.type ≠ none) →
    (fs.mapM (fun (f : Field) => (do pure (f.offset, ← sizeOf f.type) : Sem (Nat × Nat)))).run P w = .ok (fs.map fun f => (f.offset, sz P f.type)) w
  | [], _ => rfl
  | f :: fs, h => by
    simp only [List.mapM_cons, Sem.run_bind, sizeOf_ok (h f (List.mem_cons_self ..)), Result.andThen_ok, Sem.run_pure, mapM_places w fs fun f hf => h f (List.mem_cons_of_mem _ hf), List.map_cons]

theorem hBuild_ok {P : Program} {φ : Phi} {t : TypeId} {ps : List (Nat × AV)} {ps' : Array (Nat × Value)} {r : AV} (h : hBuild P t ps = some r) (hp : PRel φ ps ps'.toList) :
    Gives P φ r (Instr.build t ps') := by
  unfold hBuild at h
  split at h
  · rename_i z hz
    obtain ⟨v, i, h1, h2, h3, h4, h5, h6, h7⟩ := zeroC_ok (φ := φ) hz
    split at h
    · rename_i fs hu
      cases hk : knownFs P fs.toList with
      | false => rw [hk] at h; cases h
      | true =>
        rw [hk] at h
        simp only [cond_true] at h
        cases hf : fill (fieldPlaceA P fs) z ps with
        | none => rw [hf] at h; cases h
        | some cs =>
          rw [hf] at h
          simp only [Option.map_some, Option.some.injEq] at h
          subst h
          obtain ⟨r', r1, r2, r3⟩ := fill_ok hf hp h3 h4
          refine ⟨.agg r', .agg r2 r3, fun w => ?_⟩
          have hpl : (fun i : Nat => (fs.toList.map fun f => (f.offset, sz P f.type)).toArray[i]?) = fieldPlaceA P fs := by
            funext i
            unfold fieldPlaceA
            simp only [List.getElem?_toArray, List.getElem?_map, Array.getElem?_toList]
            cases fs[i]? <;> rfl
          simp only [Instr.build, Sem.run_bind, h7, Result.andThen_ok, run_underlying hu, Array.mapM_eq_mapM_toList, Sem.run_map, mapM_places w fs.toList (knownFs_ok hk), hpl, r1, Sem.run_pure]
    · rename_i n e hu
      cases hk : szEq P e (sz P e) with
      | false => rw [hk] at h; cases h
      | true =>
        rw [hk] at h
        simp only [cond_true] at h
        cases hf : fill (fun i => some (Nat.mul i (sz P e), sz P e)) z ps with
        | none => rw [hf] at h; cases h
        | some cs =>
          rw [hf] at h
          simp only [Option.map_some, Option.some.injEq] at h
          subst h
          obtain ⟨r', r1, r2, r3⟩ := fill_ok hf hp h3 h4
          refine ⟨.agg r', .agg r2 r3, fun w => ?_⟩
          simp only [Nat.mul_eq] at r1
          simp only [Instr.build, Sem.run_bind, h7, Result.andThen_ok, run_underlying hu, sizeOf_ok (szEq_ok hk).1, r1, Sem.run_pure]
    · cases h
  · cases h

/-- bounds, at both; the model's capacity may be greater -/
def ORelV (φ : Phi) : Option AV → Option Value → Prop
  | none, none => True
  | some v, some v' => VRel φ v v'
  | _, _ => False

theorem sliceBound_ok {P : Program} {φ : Phi} {v : AV} {v' : Value} {n y : Nat} {code : BoundsCode} (h : asNat v = some n) (hv : VRel φ v v') (hy : n ≤ y) (w : World) :
    (Instr.sliceBound v' y code).run P w = .ok n w := by
  obtain ⟨k, rfl⟩ := asNat_ok h hv
  have : (0 : Int) ≤ (n : Int) ∧ (n : Int) ≤ (y : Int) := by omega
  simp [Instr.sliceBound, asIntOf_ok, this]

theorem boundsA_ok {P : Program} {φ : Phi} {len cap cap' : Nat} {low high mx : Option AV} {low' high' mx' : Option Value} {l h m : Nat} (isS : Bool) (e : boundsA len cap low high mx = some (l, h, m))
    (h1 : ORelV φ low low') (h2 : ORelV φ high high') (h3 : ORelV φ mx mx') (hc : cap ≤ cap') (hl : len ≤ cap) :
    l ≤ h ∧ h ≤ m ∧ m ≤ cap ∧ ∃ m', (mx = none → m = cap ∧ m' = cap') ∧ (mx ≠ none → m' = m) ∧ ∀ w, (Instr.sliceBounds isS len cap' low' high' mx').run P w = .ok (l, h, m') w := by
  unfold boundsA at e
  split at e
  · cases e
  · rename_i m0 hm
    split at e
    · cases e
    · rename_i h0 hh
      split at e
      · cases e
      · rename_i l0 hlo
        simp only [Option.some.injEq, Prod.mk.injEq] at e
        obtain ⟨rfl, rfl, rfl⟩ := e
        -- the low bound
        have klow : l0 ≤ h0 ∧ ∀ code w, (match low' with | some v => Instr.sliceBound v h0 code | none => pure 0 : Sem Nat).run P w = .ok l0 w := by
          cases low with
          | none =>
            cases low' with
            | none => simp only [bLow, Option.some.injEq] at hlo; subst hlo; exact ⟨Nat.zero_le _, fun _ _ => rfl⟩
            | some _ => exact h1.elim
          | some v =>
            cases low' with
            | none => exact h1.elim
            | some v' =>
              simp only [bLow] at hlo
              split at hlo
              · rename_i n hn
                cases hb : Nat.ble n h0 with
                | false => rw [hb] at hlo; cases hlo
                | true =>
                  rw [hb] at hlo
                  simp only [cond_true, Option.some.injEq] at hlo
                  subst hlo
                  exact ⟨Nat.le_of_ble_eq_true hb, fun _ w => sliceBound_ok hn h1 (Nat.le_of_ble_eq_true hb) w⟩
              · cases hlo
        cases mx with
        | none =>
          cases mx' with
          | some _ => exact h3.elim
          | none =>
            simp only [bMax, Option.some.injEq] at hm
            subst hm
            have khigh : h0 ≤ cap ∧ ∀ code w, (match high' with | some v => Instr.sliceBound v cap' code | none => pure len : Sem Nat).run P w = .ok h0 w := by
              cases high with
              | none =>
                cases high' with
                | none => simp only [bHigh, Option.isSome_none, cond_false, Option.some.injEq] at hh; subst hh; exact ⟨hl, fun _ _ => rfl⟩
                | some _ => exact h2.elim
              | some v =>
                cases high' with
                | none => exact h2.elim
                | some v' =>
                  simp only [bHigh] at hh
                  split at hh
                  · rename_i n hn
                    cases hb : Nat.ble n cap with
                    | false => rw [hb] at hh; cases hh
                    | true =>
                      rw [hb] at hh
                      simp only [cond_true, Option.some.injEq] at hh
                      subst hh
                      have := Nat.le_of_ble_eq_true hb
                      exact ⟨this, fun _ w => sliceBound_ok hn h2 (by omega) w⟩
                  · cases hh
            refine ⟨klow.1, khigh.1, Nat.le_refl _, cap', fun _ => ⟨rfl, rfl⟩, fun h => absurd rfl h, fun w => ?_⟩
            cases high' with
            | none =>
              have := khigh.2 .index w
              simp only [Sem.run_pure, Result.ok.injEq, and_true] at this
              subst this
              simp only [Instr.sliceBounds, Sem.run_bind, Sem.run_pure, Result.andThen_ok]
              have := klow.2 .sliceB w
              cases low' <;> simp_all
            | some v' =>
              have e1 := khigh.2 (if isS then .sliceAcap else .sliceAlen) w
              simp only [Instr.sliceBounds, Sem.run_bind, Sem.run_pure, Result.andThen_ok]
              simp only at e1
              rw [e1]
              simp only [Result.andThen_ok]
              have := klow.2 .sliceB w
              cases low' <;> simp_all
        | some v =>
          cases mx' with
          | none => exact h3.elim
          | some v' =>
            simp only [bMax] at hm
            split at hm
            · rename_i n hn
              cases hb : Nat.ble n cap with
              | false => rw [hb] at hm; cases hm
              | true =>
                rw [hb] at hm
                simp only [cond_true, Option.some.injEq] at hm
                subst hm
                have hncap := Nat.le_of_ble_eq_true hb
                cases high with
                | none => simp only [bHigh, Option.isSome_some, cond_true, reduceCtorEq] at hh
                | some u =>
                  cases high' with
                  | none => exact h2.elim
                  | some u' =>
                    simp only [bHigh] at hh
                    split at hh
                    · rename_i k hk
                      cases hb2 : Nat.ble k n with
                      | false => rw [hb2] at hh; cases hh
                      | true =>
                        rw [hb2] at hh
                        simp only [cond_true, Option.some.injEq] at hh
                        subst hh
                        have hkn := Nat.le_of_ble_eq_true hb2
                        refine ⟨klow.1, hkn, hncap, n, fun h => (by cases h), fun _ => rfl, fun w => ?_⟩
                        simp only [Instr.sliceBounds, Sem.run_bind, Result.andThen_ok, sliceBound_ok hn h3 (show n ≤ cap' by omega), sliceBound_ok hk h2 hkn]
                        have := klow.2 .slice3C w
                        cases low' <;> simp_all
                    · cases hh
            · cases hm

end Go.Ae

/- Slices, conversions, lengths. -/
namespace Go.Ae
open Go

/-- what a read answers -/
def ReadOk (P : Program) (φ : Phi) (q : Rq) (m : Sem Value) : Prop :=
  ∀ A w v, HRel φ A w.heap → evalRq P A q = some v → ∃ u, VRel φ v u ∧ m.run P w = .ok u w

/-- what a fresh block is -/
def AllocOk (P : Program) (φ : Phi) (ob : AObj) (v : Nat → AV) (m : Sem Value) : Prop :=
  ∀ w, ∃ obj u n s l, m.run P w = .ok u { w with heap := w.heap.push obj, drawn := n } ∧
    ∀ b, φ b = none → ORel (φ.put b (w.heap.size, s, l)) ob obj s l ∧ VRel (φ.put b (w.heap.size, s, l)) (v b) u

theorem bytesOfStr_extract (s : ByteArray) (l h : Nat) : bytesOfStr (s.extract l h) = ((bytesOfStr s).drop l).take (h - l) := by
  unfold bytesOfStr
  rw [ByteArray.data_extract, Array.toList_extract]
  simp [List.map_drop, List.map_take]

theorem hSlice_ok {P : Program} {φ : Phi} {t : TypeId} {x : AV} {x' : Value} {low high mx : Option AV} {low' high' mx' : Option Value} {r : AV} (h : hSlice P t x low high mx = some r)
    (hx : VRel φ x x') (h1 : ORelV φ low low') (h2 : ORelV φ high high') (h3 : ORelV φ mx mx') : Gives P φ r (Instr.sliceAt t x' low' high' mx') := by
  cases hx <;> simp only [hSlice, reduceCtorEq] at h
  case str s =>
    split at h
    · rename_i hu
      split at h
      · rename_i hmx
        split at h
        · rename_i lo hi m hb
          split at h
          · rename_i c hc
            simp only [Option.some.injEq] at h
            subst h
            cases mx' with
            | some _ => exact h3.elim
            | none =>
              obtain ⟨b1, b2, b3, m', b4, b5, b6⟩ := boundsA_ok (P := P) false hb h1 h2 (show ORelV φ none none from trivial) (Nat.le_refl (bytesOfStr s).length) (Nat.le_refl _)
              obtain ⟨rfl, rfl⟩ := b4 rfl
              obtain ⟨_, c2, _⟩ := cut_some _ _ _ _ hc
              subst c2
              rw [Nat.sub_eq, ← bytesOfStr_extract]
              refine ⟨_, .str _, fun w => ?_⟩
              have := b6 w
              rw [bytesOfStr_length] at this
              simp only [Instr.sliceAt, Instr.slice, Sem.run_bind, run_underlying hu, Result.andThen_ok, Option.isSome_none, Bool.false_eq_true, if_false, Sem.run_pure, this]
          · cases h
        · cases h
      · cases h
    · cases h
  case sliceNil a b c d =>
    split at h
    · rename_i e hu
      cases hz : szEq P e (sz P e) with
      | false => rw [hz] at h; cases h
      | true =>
        rw [hz] at h
        simp only [cond_true] at h
        split at h
        · rename_i y hb
          obtain ⟨lo, hi, m⟩ := y
          simp only [Option.some.injEq] at h
          subst h
          obtain ⟨b1, b2, b3, m', b4, b5, b6⟩ := boundsA_ok (P := P) true hb h1 h2 h3 (Nat.le_refl 0) (Nat.le_refl 0)
          have hm' : m' = 0 := by
            by_cases hn : mx = none
            · exact (b4 hn).2
            · rw [b5 hn]; omega
          refine ⟨.slice none 0 0, .sliceNil _ _ _ _, fun w => ?_⟩
          have h0 : lo = 0 := by omega
          have h0' : hi = 0 := by omega
          subst h0 h0' hm'
          simp only [Instr.sliceAt, Instr.slice, Sem.run_bind, run_underlying hu, Result.andThen_ok, b6 w, sizeOf_ok (szEq_ok hz).1, Sem.run_pure, if_true]
        · cases h
    · cases h
  case slice b off len cap cap' z R s l ex a hφ hc he hl hb ha =>
    split at h
    · rename_i e hu
      cases hz : szEq P e z with
      | false => rw [hz] at h; cases h
      | true =>
        rw [hz] at h
        simp only [cond_true] at h
        split at h
        · rename_i lo hi m hbd
          simp only [Option.some.injEq] at h
          subst h
          obtain ⟨b1, b2, b3, m', b4, b5, b6⟩ := boundsA_ok (P := P) true hbd h1 h2 h3 hc hl
          obtain ⟨hz1, rfl⟩ := szEq_ok hz
          have hm' : m ≤ m' ∧ m' ≤ cap' := by
            by_cases hn : mx = none
            · obtain ⟨e1, e2⟩ := b4 hn; omega
            · rw [b5 hn]; omega
          have hmul : lo * sz P e + (m' - lo) * sz P e = m' * sz P e := by
            rw [← Nat.add_mul]; congr 1; omega
          have hmul2 : m' * sz P e ≤ cap' * sz P e := Nat.mul_le_mul_right _ hm'.2
          refine ⟨.slice (some (if m' = lo then a else a.add (lo * sz P e))) (hi - lo) (m' - lo), .slice hφ (by simp only [Nat.sub_eq]; omega) (fun hex => ?_) (by simp only [Nat.sub_eq]; omega)
            (by simp only [Nat.add_eq, Nat.mul_eq]; omega) (fun hp => ?_), fun w => ?_⟩
          · simp only [Nat.sub_eq]
            by_cases hn : mx = none
            · subst hn
              obtain ⟨e1, e2⟩ := b4 rfl
              simp only [Option.isSome_none, Bool.or_false] at hex
              have := he hex
              omega
            · rw [b5 hn]
          · rw [if_neg (by omega), ha (by omega)]
            simp only [Nat.add_eq, Nat.mul_eq, Addr.add_mid]
            simp [Nat.add_assoc]
          · simp only [Instr.sliceAt, Instr.slice, Sem.run_bind, run_underlying hu, Result.andThen_ok, b6 w, sizeOf_ok hz1, Sem.run_pure]
            split <;> rfl
        · cases h
    · cases h

theorem hSliceArr_ok {P : Program} {φ : Phi} {t : TypeId} {b off : Nat} {x' : Value} {low high mx : Option AV} {low' high' mx' : Option Value} {q : Rq} (h : hSliceArr P t b off low high mx = .rd q)
    (hx : VRel φ (.ptr (some (b, off))) x') (h1 : ORelV φ low low') (h2 : ORelV φ high high') (h3 : ORelV φ mx mx') : ReadOk P φ q (Instr.sliceAt t x' low' high' mx') := by
  obtain ⟨R, s, l, rfl, hφ⟩ := hx.ptr_inv
  unfold hSliceArr at h
  split at h
  · rename_i n e hu
    cases hz : szEq P e (sz P e) with
    | false => rw [hz] at h; cases h
    | true =>
      rw [hz] at h
      simp only [cond_true] at h
      split at h
      · rename_i lo hi m hb
        simp only [OpRes.rd.injEq] at h
        subst h
        intro A w v H hv
        simp only [evalRq] at hv
        split at hv
        · rename_i ty cs ro sib hA
          cases hle : Nat.ble (Nat.add off (Nat.mul n (sz P e))) cs.length with
          | false => rw [hle] at hv; cases hv
          | true =>
            rw [hle] at hv
            simp only [cond_true, Option.some.injEq] at hv
            subst hv
            have hle' := Nat.le_of_ble_eq_true hle
            simp only [Nat.add_eq, Nat.mul_eq] at hle'
            obtain ⟨R', s', l', c, ety, fl, fh, g1, g2, g3, g4, g5, g6, g7, g8⟩ := H.block hA
            rw [hφ] at g1
            cases g1
            obtain ⟨b1, b2, b3, m', b4, b5, b6⟩ := boundsA_ok (P := P) false hb h1 h2 h3 (Nat.le_refl n) (Nat.le_refl n)
            have hm' : m' = m := by
              by_cases hn : mx = none
              · obtain ⟨e1, e2⟩ := b4 hn; omega
              · exact b5 hn
            subst hm'
            have hmul : lo * sz P e + (m' - lo) * sz P e = m' * sz P e := by
              rw [← Nat.add_mul]; congr 1; omega
            have hmul2 : m' * sz P e ≤ n * sz P e := Nat.mul_le_mul_right _ b3
            refine ⟨.slice (some (if m' = lo then ⟨R, s + off, none⟩ else Addr.add ⟨R, s + off, none⟩ (lo * sz P e))) (hi - lo) (m' - lo), .slice hφ (Nat.le_refl _) (fun _ => rfl) (by simp only [Nat.sub_eq]; omega)
              (by simp only [Nat.add_eq, Nat.mul_eq]; omega) (fun hp => ?_), ?_⟩
            · have hp' : ¬ m' = lo := by intro he; subst he; simp at hp
              rw [if_neg hp']
              simp only [Nat.add_eq, Nat.mul_eq, Addr.add_mid]
              simp [Nat.add_assoc]
            · simp only [Instr.sliceAt, Sem.run_bind, run_underlying hu, Result.andThen_ok, Instr.sureAddr, Sem.run_pure, b6 w, sizeOf_ok (szEq_ok hz).1]
        · cases hv
      · cases h
  · cases h

theorem run_prog {P : Program} (w : World) : (program).run P w = .ok P w := rfl
theorem shape_of {w : World} {R : Nat} {c : Array Value} {e : TypeId} {f : Nat × Nat} (h : w.heap[R]? = some (.cells c e f)) : w.shape? R = some (e, c.size) := by
  simp [World.shape?, h]

theorem run_shape {P : Program} {w : World} {R : Nat} {x : Option (TypeId × Nat)} (h : w.shape? R = x) : (shape R).run P w = .ok x w := by
  subst h; rfl

theorem run_viewAt_cells {P : Program} {w : World} {R : Nat} {c : Array Value} {e : TypeId} {f : Nat × Nat} (h : w.heap[R]? = some (.cells c e f)) : (viewAt R).run P w = .ok none w := by
  simp [viewAt, Sem.run_bind, run_shape (shape_of h)]

theorem run_seenAt {P : Program} {w : World} {a : Addr} {c : Array Value} {e : TypeId} {f : Nat × Nat} (h : w.heap[a.block]? = some (.cells c e f)) : (Conv.seenAt a).run P w = .ok a w := by
  simp [Conv.seenAt, Sem.run_bind, run_viewAt_cells h]

theorem run_cellsIn {P : Program} {w : World} {R : Nat} {c : Array Value} {e : TypeId} {f : Nat × Nat} (h : w.heap[R]? = some (.cells c e f)) : (cellsIn R).run P w = .ok (some c.size) w := by
  simp [cellsIn, Sem.run_bind, run_shape (shape_of h)]

theorem rowAt_mono {P : Program} {fits : TypeId → Bool} : ∀ (d e count count' off n : Nat), count ≤ count' → rowAt P fits d e count off n = true → rowAt P fits d e count' off n = true
  | 0, _, _, _, _, _, _, h => by simp [rowAt] at h
  | d + 1, e, count, count', off, n, hc, h => by
    simp only [rowAt] at h ⊢
    split at h
    · cases h
    · rename_i hs
      rw [if_neg hs]
      simp only [Bool.or_eq_true, Bool.and_eq_true, decide_eq_true_eq] at h ⊢
      rcases h with h | h
      · exact .inl ⟨⟨h.1.1, by omega⟩, h.2⟩
      · exact .inr ⟨by omega, h.2⟩
theorem liesAt_mono {P : Program} : ∀ (d e count count' off u n : Nat), count ≤ count' → liesAt P d e count off u n = true → liesAt P d e count' off u n = true
  | 0, _, _, _, _, _, _, _, h => by simp [liesAt] at h
  | d + 1, e, count, count', off, u, n, hc, h => by
    simp only [liesAt, Bool.or_eq_true] at h ⊢
    rcases h with h | h
    · exact .inl (rowAt_mono _ _ _ _ _ _ hc h)
    · refine .inr ?_
      split at h
      · exact liesAt_mono d e count count' off _ _ hc h
      · cases h

theorem run_variablesAt {P : Program} {φ : Phi} {A : AW} {w : World} (H : HRel φ A w.heap) {b : Nat} {ty : TypeId} {cs : List AV} {ro : Bool} {sib : Option Nat} (hA : A.get b = some (.cells ty cs ro sib))
    {R s l off u n : Nat} (hφ : φ b = some (R, s, l)) (hn : Nat.beq ty noTy = false) (hl : liesAt P P.depth ty (Nat.div cs.length (sz P ty)) off u n = true) :
    s = 0 ∧ (variablesAt ⟨R, s + off, none⟩ u n).run P w = .ok true w := by
  obtain ⟨R', s', l', c, ety, fl, fh, g1, g2, g3, g4, g5, g6, g7, g8⟩ := H.block hA
  rw [hφ] at g1
  cases g1
  rcases g8 with g8 | ⟨rfl, rfl⟩
  · subst g8; simp at hn
  · refine ⟨rfl, ?_⟩
    have := liesAt_mono P.depth ty (Nat.div cs.length (sz P ty)) (c.size / P.cellsOf ty) off u n (Nat.div_le_div_right (by omega)) hl
    simp only [variablesAt, Sem.run_bind, run_prog, Sem.run_pure, Result.andThen_ok, run_shape (shape_of g2), Nat.zero_add, this]

theorem seen_ok {P : Program} {φ : Phi} {src dst t : TypeId} {b off : Nat} {x' : Value} (hs : P.underlying src = some (.pointer t)) (hd : P.underlying dst = some .unsafePointer)
    (hx : VRel φ (.ptr (some (b, off))) x') : ReadOk P φ (.seen t b off) (convert src dst x') := by
  obtain ⟨R, s, l, rfl, hφ⟩ := hx.ptr_inv
  intro A w v H hv
  simp only [evalRq] at hv
  split at hv
  · rename_i ty cs ro sib hA
    cases hq : (Nat.blt off cs.length && Nat.blt 0 (sz P t)) with
    | false => rw [hq] at hv; cases hv
    | true =>
      rw [hq] at hv
      simp only [cond_true, Option.some.injEq] at hv
      subst hv
      simp only [Bool.and_eq_true] at hq
      have h1 := blt_lt hq.1
      have h2 := blt_lt hq.2
      obtain ⟨R', s', l', c, ety, fl, fh, g1, g2, g3, g4, g5, g6, g7, g8⟩ := H.block hA
      rw [hφ] at g1
      cases g1
      refine ⟨_, .ptr hφ, ?_⟩
      have hlt : ¬ (c.size ≤ s + off) := by omega
      have h2' : ¬ sz P t = 0 := by omega
      simp only [convert, Sem.run_bind, run_underlying hs, run_underlying hd, Result.andThen_ok, Conv.unsafePointer, run_seenAt (a := ⟨R, s + off, none⟩) g2, run_cellsIn g2, sizeOf_ok (sz_info h2')]
      simp [h2', hlt]
  · cases hv

theorem shown_ok {P : Program} {φ : Phi} {src dst u : TypeId} {b off : Nat} {x' : Value} (hs : P.underlying src = some .unsafePointer) (hd : P.underlying dst = some (.pointer u))
    (hx : VRel φ (.ptr (some (b, off))) x') : ReadOk P φ (.shown u b off) (convert src dst x') := by
  obtain ⟨R, s, l, rfl, hφ⟩ := hx.ptr_inv
  intro A w v H hv
  simp only [evalRq] at hv
  split at hv
  · rename_i ty cs ro sib hA
    cases hq : (szEq P u (sz P u) && (!Nat.beq ty noTy && liesAt P P.depth ty (Nat.div cs.length (sz P ty)) off u 1)) with
    | false => rw [hq] at hv; cases hv
    | true =>
      rw [hq] at hv
      simp only [cond_true, Option.some.injEq] at hv
      subst hv
      simp only [Bool.and_eq_true, Bool.not_eq_true'] at hq
      obtain ⟨h0, h1⟩ := run_variablesAt (P := P) H hA hφ hq.2.1 hq.2.2
      obtain ⟨R', s', l', c, ety, fl, fh, g1, g2, g3, g4, g5, g6, g7, g8⟩ := H.block hA
      rw [hφ] at g1
      cases g1
      refine ⟨_, .ptr hφ, ?_⟩
      simp only [convert, Sem.run_bind, run_underlying hs, run_underlying hd, Result.andThen_ok, Conv.unsafePointer, run_seenAt (a := ⟨R, s + off, none⟩) g2, sizeOf_ok (szEq_ok hq.1).1, h1]
      simp
  · cases hv

end Go.Ae

/- Reads: variables, bytes, lengths of maps, keys and entries. -/
namespace Go.Ae
open Go

theorem run_load {P : Program} {w : World} {a : Addr} {v : Value} (h : w.cell? a = some v) : (load a).run P w = .ok v w := by
  simp [load, Sem.run, h]

theorem loadA_ok {P : Program} {φ : Phi} {A : AW} {w : World} {t : TypeId} {b off R s l : Nat} {v : AV} (H : HRel φ A w.heap) (hφ : φ b = some (R, s, l)) (h : loadA P A t b off = some v) :
    ∃ u, VRel φ v u ∧ (loadVar t ⟨R, s + off, none⟩).run P w = .ok u w := by
  unfold loadA at h
  split at h
  · rename_i ty cs ro sib hA
    split at h
    · rename_i hb
      split at h
      · rename_i c hc
        simp only [Option.some.injEq] at h
        subst h
        obtain ⟨us, h1, h2, h3, h4⟩ := H.range hA hφ hc
        obtain ⟨d, hd, hr⟩ := isAggT_under hb
        refine ⟨.agg us.toArray, .agg (by simpa using h1) (by simpa using h3), run_loadVar_mid w R (s + off) t us d h4 hd ?_ ?_⟩
        · cases d <;> first | rfl | (simp [rowD] at hr)
        · cases hi : P.info? t with
          | none => exact absurd hi (info_of_agg hb)
          | some i => simp [h2, sz, Program.cellsOf, hi]
      · cases h
    · rename_i hb
      obtain ⟨R', s', l', c, ety, fl, fh, g1, g2, g3, g4, g5, g6, g7, g8⟩ := H.block hA
      rw [hφ] at g1
      cases g1
      obtain ⟨y, hy, hr⟩ := g5.get _ _ h
      refine ⟨y, hr, ?_⟩
      have hy' : c[s + off]? = some y := by
        rw [getElem?_dropTake] at hy
        split at hy
        · simpa using hy
        · cases hy
      simp only [loadVar, Sem.run_bind, isAgg_ok hb, Result.andThen_ok, Bool.false_eq_true, if_false]
      exact run_load (by rw [cell_of g2]; exact hy')
    · cases h
  · cases h

theorem load_ok {P : Program} {φ : Phi} {t : TypeId} {b off : Nat} {x' : Value} (hx : VRel φ (.ptr (some (b, off))) x') : ReadOk P φ (.load t b off) (Instr.loadAt t x') := by
  obtain ⟨R, s, l, rfl, hφ⟩ := hx.ptr_inv
  intro A w v H hv
  obtain ⟨u, h1, h2⟩ := loadA_ok H hφ hv
  exact ⟨u, h1, by simp only [Instr.loadAt, Instr.sureAddr, Sem.run_bind, Sem.run_pure, Result.andThen_ok, h2]⟩

theorem asBytes_ok {φ : Phi} : ∀ {l : List AV} {s : List Nat} {us : List Value}, asBytes l = some s → VRels φ l us → us = (s.map fun n => .int .u8 (Int.ofNat n)) ∧ ∀ n ∈ s, n < 256
  | [], s, us, h, hr => by simp only [asBytes, Option.some.injEq] at h; subst h; cases hr; exact ⟨rfl, by simp⟩
  | x :: l, s, us, h, hr => by
    cases hr
    rename_i u us hx ht
    cases hx <;> simp only [asBytes, reduceCtorEq] at h
    rename_i k n
    cases k <;> simp only [reduceCtorEq] at h
    cases n <;> simp only [reduceCtorEq] at h
    rename_i m
    cases hb : Nat.blt m 256 with
    | false => rw [hb] at h; cases h
    | true =>
      rw [hb] at h
      simp only [cond_true] at h
      split at h
      · rename_i r hr'
        simp only [Option.some.injEq] at h
        subst h
        obtain ⟨h1, h2⟩ := asBytes_ok hr' ht
        rw [h1]
        refine ⟨rfl, fun n hn => ?_⟩
        cases hn with
        | head => exact blt_lt hb
        | tail _ hn => exact h2 n hn
      · cases h

theorem foldl_push : ∀ (s : List Nat) (r : ByteArray), bytesOfStr ((s.map Int.ofNat).foldl (fun r n => r.push (UInt8.ofNat n.toNat)) r) = bytesOfStr r ++ s.map fun n => (UInt8.ofNat n).toNat
  | [], r => by simp
  | n :: s, r => by
    simp only [List.map_cons, List.foldl_cons]
    rw [foldl_push s]
    simp [bytesOfStr, List.append_assoc]

theorem cellsAt_ok {P : Program} {φ : Phi} {A : AW} {w : World} (H : HRel φ A w.heap) {b off n R s l : Nat} {vs : List AV} (hφ : φ b = some (R, s, l)) (h : cellsAt A b off n = some vs) :
    ∃ us, VRels φ vs us ∧ us.length = n ∧ (∀ v ∈ us, Flat v) ∧ w.rangeAt R (s + off) us ∧ (loadCells ⟨R, s + off, none⟩ n).run P w = .ok us.toArray w := by
  unfold cellsAt at h
  split at h
  · rename_i ty cs ro sib hA
    obtain ⟨us, h1, h2, h3, h4⟩ := H.range hA hφ h
    refine ⟨us, h1, h2, h3, h4, ?_⟩
    rw [← h2]
    exact run_loadCells_list (P := P) w ⟨R, s + off, none⟩ us (fun j v hv => by rw [Addr.add_mid]; exact h4 j v hv)
  · cases h

theorem map_ofNat_id : ∀ (s : List Nat), (∀ n ∈ s, n < 256) → (s.map fun n => (UInt8.ofNat n).toNat) = s
  | [], _ => rfl
  | n :: s, h => by
    simp only [List.map_cons]
    rw [map_ofNat_id s fun m hm => h m (List.mem_cons_of_mem _ hm)]
    have := h n (List.mem_cons_self ..)
    simp [UInt8.toNat_ofNat', Nat.mod_eq_of_lt this]

theorem bytes_ok {P : Program} {φ : Phi} {src dst e : TypeId} {a : Option (Nat × Nat)} {len cap z : Nat} {ex : Bool} {x' : Value} (hs : P.underlying src = some (.slice e)) (hd : P.underlying dst = some .string)
    (he : P.underlying e = some (.int .u8)) (hz : a.isNone = true ∨ z = 1) (hx : VRel φ (.slice a len cap z ex) x') : ReadOk P φ (.bytes a len) (convert src dst x') := by
  intro A w v H hv
  cases hx with
  | sliceNil =>
    simp only [evalRq, Option.some.injEq] at hv
    subst hv
    have : bytesOfStr ByteArray.empty = [] := rfl
    refine ⟨.string .empty, by rw [← this]; exact .str _, ?_⟩
    simp only [convert, Sem.run_bind, run_underlying hs, run_underlying hd, run_underlying he, Result.andThen_ok, Conv.bytesToString, Sem.run_pure]
  | slice hφ hc hex hl hb ha =>
    rename_i b off cap' R s l a
    have hz1 : z = 1 := by simpa using hz
    subst hz1
    simp only [evalRq] at hv
    split at hv
    · rename_i cs hcs
      split at hv
      · rename_i str hstr
        simp only [Option.some.injEq] at hv
        subst hv
        obtain ⟨us, h1, h2, h3, h4, h5⟩ := cellsAt_ok (P := P) H hφ hcs
        obtain ⟨hu, hlt⟩ := asBytes_ok hstr h1
        have hload : (loadCells a len).run P w = .ok ((str.map Int.ofNat).map (Value.int .u8)).toArray w := by
          have he2 : us.toArray = ((str.map Int.ofNat).map (Value.int .u8)).toArray := by rw [hu]; simp
          by_cases h0 : len = 0
          · subst h0
            have : str = [] := by
              have := h1.length
              rw [h2] at this
              cases us with
              | nil => cases str with
                | nil => rfl
                | cons _ _ => simp at hu
              | cons _ _ => simp at h2
            subst this
            rfl
          · rw [ha (by omega), ← he2]; exact h5
        have := run_bytesToString w a len cap' (str.map Int.ofNat) hload
        refine ⟨.string ((str.map Int.ofNat).foldl (fun r n => r.push (UInt8.ofNat n.toNat)) ByteArray.empty), ?_, ?_⟩
        rotate_left
        · simp only [convert, Sem.run_bind, run_underlying hs, run_underlying hd, run_underlying he, Result.andThen_ok]
          exact this
        · have hf := foldl_push str ByteArray.empty
          rw [map_ofNat_id str hlt] at hf
          have h0 : bytesOfStr ByteArray.empty = [] := rfl
          rw [h0, List.nil_append] at hf
          have hv2 := VRel.str (φ := φ) ((str.map Int.ofNat).foldl (fun r n => r.push (UInt8.ofNat n.toNat)) ByteArray.empty)
          rw [hf] at hv2
          exact hv2
      · cases hv
    · cases hv

theorem HRel.map {φ : Phi} {A : AW} {h : Array Obj} (H : HRel φ A h) {b R s l clock : Nat} {es : List (AV × AV × Nat)} (hφ : φ b = some (R, s, l)) (hb : A.get b = some (.map es clock)) :
    ∃ en, h[R]? = some (.map en clock) ∧ AllRel (ERel φ) es en.toList ∧ s = 0 ∧ l = 0 := by
  obtain ⟨R', s', l', obj, h1, h2, h3⟩ := H.con b _ hb
  rw [hφ] at h1
  cases h1
  cases h3 with
  | map h => exact ⟨_, h2, h, rfl, rfl⟩

theorem run_getObj {P : Program} {w : World} {r : Nat} {o : Obj} (h : w.heap[r]? = some o) (hn : ∀ c e f, o ≠ .cells c e f) : (getObj r).run P w = .ok o w := by
  unfold getObj
  simp only [Sem.run, h]

end Go.Ae

/- Maps: keys, entries found, lookups. -/
namespace Go.Ae
open Go

mutual
theorem keyP_ok {P : Program} {φ : Phi} {em : Bool} : ∀ (d n : Nat) (t : TypeId) (x : AV) (x' : Value), keyP P d t x = true → VRel φ x x' → d ≤ n → ∀ w, (Instr.checkKey em n t x').run P w = .ok () w
  | 0, n, t, x, x', h, hx, hd, w => by simp [keyP] at h
  | d + 1, 0, t, x, x', h, hx, hd, w => by omega
  | d + 1, n + 1, t, x, x', h, hx, hd, w => by
    simp only [keyP] at h
    split at h
    · rename_i hu
      split at h
      · cases hx; simp [Instr.checkKey, Sem.run_bind, run_underlying hu]
      · cases h
    · rename_i hu
      split at h
      · cases hx; simp [Instr.checkKey, Sem.run_bind, run_underlying hu]
      · cases h
    · rename_i hu
      split at h
      · cases hx; simp [Instr.checkKey, Sem.run_bind, run_underlying hu]
      · cases h
    · rename_i fs hu
      split at h
      · rename_i cs
        obtain ⟨cs', rfl, hcs, hf⟩ := hx.agg_inv
        simp only [Instr.checkKey, Sem.run_bind, run_underlying hu, Result.andThen_ok]
        rw [← Array.forIn_toList]
        have := keyFs_ok (em := em) d n fs.toList cs cs' h hcs hf (by omega) w
        rw [this]
        rfl
      · cases h
    · cases h
theorem keyFs_ok {P : Program} {φ : Phi} {em : Bool} : ∀ (d n : Nat) (fs : List Field) (a : List AV) (a' : Array Value), keyFs P d fs a = true → VRels φ a a'.toList → (∀ v ∈ a'.toList, Flat v) → d ≤ n →
    ∀ w, (forIn fs PUnit.unit (fun (f : Field) (_ : PUnit) => (
      if f.name ≠ "_" then do
        let v ← part f.type a' f.offset
        Instr.checkKey em n f.type v
        pure (ForInStep.yield PUnit.unit)
      else pure (ForInStep.yield PUnit.unit) : Sem (ForInStep PUnit)))).run P w = .ok PUnit.unit w
  | d, n, [], a, a', h, ha, hf, hd, w => by simp
  | 0, n, f :: fs, a, a', h, ha, hf, hd, w => by simp [keyFs] at h
  | d + 1, n, f :: fs, a, a', h, ha, hf, hd, w => by
    simp only [keyFs] at h
    split at h
    · rename_i x hx
      simp only [Bool.and_eq_true] at h
      obtain ⟨x', hx1, hx2⟩ := partA_ok hx ha hf
      have h1 := keyP_ok (em := em) d n f.type x x' h.1 hx1 (by omega)
      have ih := keyFs_ok (em := em) d n fs a a' h.2 ha hf (by omega) w
      simp only [List.forIn_cons, Sem.run_bind]
      by_cases hn : f.name = "_"
      · simp only [hn, ne_eq, not_true_eq_false, if_false, Sem.run_pure, Result.andThen_ok]
        exact ih
      · simp only [hn, ne_eq, not_false_eq_true, if_true, Sem.run_bind, hx2, h1, Sem.run_pure, Result.andThen_ok]
        exact ih
    · cases h
end

theorem goodKey_ok {P : Program} {φ : Phi} {em : Bool} {t : TypeId} {x : AV} {x' : Value} (h : goodKey P t x = true) (hx : VRel φ x x') (w : World) : (Instr.checkKey em 10000 t x').run P w = .ok () w :=
  keyP_ok 100 10000 t x x' h hx (by omega) w

/-- the same entry is found -/
def FRelE (φ : Phi) (es : List (AV × AV × Nat)) (en : List MapEntry) : Option (Nat × AV) → Option (Nat × Value) → Prop
  | none, none => True
  | some (i, v), some (i', v') => i' = i ∧ VRel φ v v' ∧ ∃ e m, es[i]? = some e ∧ en[i]? = some m ∧ ERel φ e m ∧ e.2.1 = v ∧ m.val = v'
  | _, _ => False

theorem sameNow_eq {P : Program} {φ : Phi} {d : Nat} {t : TypeId} {dt : TypeDesc} {x y : AV} {x' y' : Value} {b c : Bool} (hu : P.underlying t = some dt) (h : eqP P d t x y = some b) (hx : VRel φ x x') (hy : VRel φ y y')
    (hs : Instr.sameNow dt x' y' = some c) : c = b := by
  cases d with
  | zero => simp [eqP] at h
  | succ d =>
    cases hx <;> first
      | (simp only [eqP, reduceCtorEq] at h; done)
      | skip
    · cases hy <;> simp only [eqP, reduceCtorEq] at h
      split at h
      · rename_i hu'
        rw [hu] at hu'; cases hu'
        simp only [Instr.sameNow, Option.some.injEq] at hs
        cases h; exact hs.symm
      · cases h
    · cases hy <;> simp only [eqP, reduceCtorEq] at h
      split at h
      · rename_i hu'
        rw [hu] at hu'; cases hu'
        rename_i j a k c' _ _
        cases hk : kindEq j k with
        | false => rw [hk] at h; cases h
        | true =>
          rw [hk] at h
          cases h
          obtain rfl := kindEq_eq hk
          simp only [Instr.sameNow, if_true, Option.some.injEq] at hs
          rw [← hs, eqI_eq]
          rfl
      · cases h
    · cases hy <;> simp only [eqP, reduceCtorEq] at h
      split at h
      · rename_i hu'
        rw [hu] at hu'; cases hu'
        rename_i a c' _
        simp only [Instr.sameNow, Option.some.injEq] at hs
        cases h
        rw [← hs]
        rw [← bytes_beq, beq_toListBytes]
      · cases h
    · cases hy <;> simp only [eqP, reduceCtorEq] at h
      split at h
      · rename_i hu'
        rw [hu] at hu'; cases hu'
        simp [Instr.sameNow] at hs
      · rename_i hu'
        rw [hu] at hu'; cases hu'
        simp [Instr.sameNow] at hs
      · cases h

theorem findAsking_ok {P : Program} {φ : Phi} {kt : TypeId} {k : AV} {k' : Value} (hk : VRel φ k k') : ∀ (es0 : List (AV × AV × Nat)) (en0 : List MapEntry) (es : List (AV × AV × Nat)) (en : List MapEntry) (i : Nat) (r : Option (Nat × AV)),
    findA P kt k es i = some r → AllRel (ERel φ) es en → es = es0.drop i → en = en0.drop i → ∃ r', FRelE φ es0 en0 r r' ∧ ∀ w, (Instr.findAsking kt k' en i).run P w = .ok r' w
  | es0, en0, [], en, i, r, h, ha, he, hn => by
    simp only [findA, Option.some.injEq] at h
    subst h
    cases ha
    exact ⟨none, trivial, fun w => rfl⟩
  | es0, en0, e :: es, en, i, r, h, ha, he, hn => by
    cases ha
    rename_i m en hr ht
    simp only [findA] at h
    split at h
    · rename_i hq
      simp only [Option.some.injEq] at h
      subst h
      have := eqP_ok 100 Op.maxDepth kt k e.1 k' m.key true hq hk hr.1 (by simp [Op.maxDepth])
      refine ⟨some (i, m.val), ⟨rfl, hr.2.1, e, m, ?_, ?_, hr, rfl, rfl⟩, fun w => ?_⟩
      · have := congrArg (·[0]?) he; simpa using this.symm
      · have := congrArg (·[0]?) hn; simpa using this.symm
      · simp only [Instr.findAsking, Op.equal, Sem.run_bind, this, Result.andThen_ok, if_true, Sem.run_pure]
    · rename_i hq
      have h1 := eqP_ok 100 Op.maxDepth kt k e.1 k' m.key false hq hk hr.1 (by simp [Op.maxDepth])
      obtain ⟨r', k1, k2⟩ := findAsking_ok hk es0 en0 es en (i + 1) r h ht (by have := congrArg List.tail he; simpa using this) (by have := congrArg List.tail hn; simpa using this)
      refine ⟨r', k1, fun w => ?_⟩
      simp only [Instr.findAsking, Op.equal, Sem.run_bind, h1, Result.andThen_ok, Bool.false_eq_true, if_false, k2]
    · cases h

theorem findNow_ok {P : Program} {φ : Phi} {kt : TypeId} {dt : TypeDesc} {k : AV} {k' : Value} (hu : P.underlying kt = some dt) (hk : VRel φ k k') : ∀ (es : List (AV × AV × Nat)) (en : List MapEntry) (i : Nat) (r : Option (Nat × AV)) (q : Option (Nat × Value)) (r' : Option (Nat × Value)),
    findA P kt k es i = some r → AllRel (ERel φ) es en → Instr.findNow dt k' en i = some q → (∀ w, (Instr.findAsking kt k' en i).run P w = .ok r' w) → q = r'
  | [], en, i, r, q, r', h, ha, hq, hr => by
    cases ha
    simp only [Instr.findNow, Option.some.injEq] at hq
    have := hr default
    simp only [Instr.findAsking, Sem.run_pure, Result.ok.injEq, and_true] at this
    rw [← hq, ← this]
  | e :: es, en, i, r, q, r', h, ha, hq, hr => by
    cases ha
    rename_i m en hm ht
    simp only [findA] at h
    split at h
    · rename_i he
      have h1 := eqP_ok 100 Op.maxDepth kt k e.1 k' m.key true he hk hm.1 (by simp [Op.maxDepth])
      have h2 := hr default
      simp only [Instr.findAsking, Op.equal, Sem.run_bind, h1, Result.andThen_ok, if_true, Sem.run_pure, Result.ok.injEq, and_true] at h2
      simp only [Instr.findNow] at hq
      split at hq
      · simp only [Option.some.injEq] at hq; rw [← hq, ← h2]
      · rename_i hs; have := sameNow_eq hu he hk hm.1 hs; cases this
      · cases hq
    · rename_i he
      have h1 := eqP_ok 100 Op.maxDepth kt k e.1 k' m.key false he hk hm.1 (by simp [Op.maxDepth])
      simp only [Instr.findNow] at hq
      split at hq
      · rename_i hs; have := sameNow_eq hu he hk hm.1 hs; cases this
      · refine findNow_ok hu hk es en (i + 1) r q r' h ht hq fun w => ?_
        have h2 := hr w
        simpa only [Instr.findAsking, Op.equal, Sem.run_bind, h1, Result.andThen_ok, Bool.false_eq_true, if_false] using h2
      · cases hq
    · cases h

theorem findA_ok {P : Program} {φ : Phi} {kt : TypeId} {k : AV} {k' : Value} (hkt : P.underlying kt ≠ none) (hk : VRel φ k k') {es : List (AV × AV × Nat)} {en : Array MapEntry} {r : Option (Nat × AV)}
    (h : findA P kt k es 0 = some r) (ha : AllRel (ERel φ) es en.toList) : ∃ r', FRelE φ es en.toList r r' ∧ ∀ w, (Instr.findKey kt k' en.toList).run P w = .ok r' w := by
  obtain ⟨r', h1, h2⟩ := findAsking_ok hk es en.toList es en.toList 0 r h ha (by simp) (by simp)
  refine ⟨r', h1, fun w => ?_⟩
  cases hu : P.underlying kt with
  | none => exact absurd hu hkt
  | some dt =>
    simp only [Instr.findKey, Sem.run_bind, run_underlying hu, Result.andThen_ok]
    cases hq : Instr.findNow dt k' en.toList 0 with
    | none => simp only [h2]
    | some q => rw [findNow_ok hu hk es en.toList 0 r q r' h ha hq h2]; rfl

theorem keyP_under {P : Program} {t : TypeId} {x : AV} (h : goodKey P t x = true) : P.underlying t ≠ none := by
  intro hn
  simp [goodKey, keyP, hn] at h

theorem lookup_ok {P : Program} {φ : Phi} {t : TypeId} {m : Option Nat} {k : AV} {ok : Bool} {m' k' : Value} (hm : VRel φ (.map m) m') (hk : VRel φ k k') : ReadOk P φ (.lookup t m k ok) (Instr.lookup t m' k' ok) := by
  intro A w v H hv
  simp only [evalRq, lookA] at hv
  split at hv
  · rename_i kt et hu
    cases hg : goodKey P kt k with
    | false => rw [hg] at hv; cases hv
    | true =>
      rw [hg] at hv
      simp only [cond_true] at hv
      have zero : ∀ {z : AV}, zeroV P et = some z → some (okA ok z false) = some v → ∃ u, VRel φ v u ∧ (do let z ← zeroValue et; pure (if ok then .tuple #[z, .bool false] else z) : Sem Value).run P w = .ok u w := by
        intro z hz he
        simp only [Option.some.injEq] at he
        subst he
        obtain ⟨z', i, z1, z2, z3, z4⟩ := zeroV_ok (φ := φ) hz
        cases ok with
        | true => exact ⟨.tuple #[z', .bool false], .tuple (.cons z3 (.cons (.bool _) .nil)), by simp [z4]⟩
        | false => exact ⟨z', z3, by simp [z4]⟩
      split at hv
      · cases hm
        split at hv
        · rename_i z hz
          obtain ⟨u, u1, u2⟩ := zero hz hv
          refine ⟨u, u1, ?_⟩
          have hfk : (Instr.findKey kt k' (#[] : Array MapEntry).toList).run P w = .ok none w := by
            cases hku : P.underlying kt with
            | none => exact absurd hku (keyP_under hg)
            | some dt => simp [Instr.findKey, run_underlying hku, Instr.findNow]
          simp only [Sem.run_bind] at u2
          simp only [Instr.lookup, Sem.run_bind, run_underlying hu, Result.andThen_ok, Sem.run_pure, goodKey_ok hg hk, hfk]
          cases hz' : (zeroValue et).run P w with
          | halt h w' => rw [hz'] at u2; cases u2
          | ok z w' =>
            rw [hz'] at u2
            simp only [Result.andThen_ok, Sem.run_pure] at u2 ⊢
            exact u2
        · cases hv
      · rename_i r
        obtain ⟨R, s, l, rfl, hφ⟩ := hm.map_inv
        split at hv
        · rename_i es clock hA
          obtain ⟨en, e1, e2, _, _⟩ := H.map hφ hA
          have ho := run_getObj (P := P) e1 (by simp)
          split at hv
          · rename_i i v0 hfa
            simp only [Option.some.injEq] at hv
            subst hv
            obtain ⟨r', f1, f2⟩ := findA_ok (keyP_under hg) hk hfa e2
            cases r' with
            | none => exact f1.elim
            | some p =>
              obtain ⟨i', v'⟩ := p
              obtain ⟨_, hv', _⟩ := f1
              cases ok with
              | true => exact ⟨.tuple #[v', .bool true], .tuple (.cons hv' (.cons (.bool _) .nil)), by simp [Instr.lookup, Sem.run_bind, run_underlying hu, ho, goodKey_ok hg hk, f2]⟩
              | false => exact ⟨v', hv', by simp [Instr.lookup, Sem.run_bind, run_underlying hu, ho, goodKey_ok hg hk, f2]⟩
          · rename_i hfa
            obtain ⟨r', f1, f2⟩ := findA_ok (keyP_under hg) hk hfa e2
            cases r' with
            | some p => exact f1.elim
            | none =>
              split at hv
              · rename_i z hz
                obtain ⟨u, u1, u2⟩ := zero hz hv
                refine ⟨u, u1, ?_⟩
                simp only [Sem.run_bind] at u2
                simp only [Instr.lookup, Sem.run_bind, run_underlying hu, Result.andThen_ok, Sem.run_pure, ho, goodKey_ok hg hk, f2]
                cases hz' : (zeroValue et).run P w with
                | halt h w' => rw [hz'] at u2; cases u2
                | ok z w' =>
                  rw [hz'] at u2
                  simp only [Result.andThen_ok, Sem.run_pure] at u2 ⊢
                  exact u2
              · cases hv
          · cases hv
        · cases hv
  · cases hv

end Go.Ae

/- What an operation comes to, at both: operands, the statement, conversions, small builtins. -/
namespace Go.Ae
open Go

/-- the variables of the program stand for themselves -/
def GlobOk (P : Program) (φ : Phi) : Prop := ∀ g, g ≤ P.globals.size → ∃ l, φ g = some (g, 0, l)
theorem GlobOk.mono {P : Program} {φ ψ : Phi} (h : GlobOk P φ) (hle : φ.le ψ) : GlobOk P ψ := fun g hg => let ⟨l, e⟩ := h g hg; ⟨l, hle _ _ e⟩

/-- an environment -/
def Env (P : Program) (φ : Phi) (tmps : Tm) (ρ : Operand → Value) : Prop := ∀ x, VRel φ (opd P tmps x) (ρ x)

theorem opd_ok {P : Program} {φ : Phi} {n : Nat} {tmps : Tm} {a : Array Value} {ρ : Operand → Value} (hG : GlobOk P φ) (ht : TRel φ n tmps a) (h1 : ∀ t, ρ (.tmp t) = a.getD t undef)
    (h2 : ∀ v, ρ (.const v) = v) (h3 : ∀ g, ρ (.global g) = .pointer (some ⟨g, 0, none⟩)) (h4 : ∀ f, ρ (.func f) = .func (.func f) #[] #[]) : Env P φ tmps ρ := by
  intro x
  cases x with
  | tmp t => rw [h1]; exact ht.2 t
  | const v => rw [h2]; exact cst_ok v
  | global g =>
    rw [h3]
    simp only [opd]
    cases hb : Nat.ble g P.globals.size with
    | false => exact .any _
    | true =>
      obtain ⟨l, hl⟩ := hG g (Nat.le_of_ble_eq_true hb)
      have := VRel.ptr (φ := φ) (off := 0) hl
      simpa using this
  | func f => rw [h4]; exact .func .nil .nil

theorem Env.opds {P : Program} {φ : Phi} {tmps : Tm} {ρ : Operand → Value} (h : Env P φ tmps ρ) : ∀ l : List Operand, VRels φ (opds P tmps l) (l.map ρ)
  | [] => .nil
  | x :: l => .cons (h x) (Env.opds h l)
theorem Env.parts {P : Program} {φ : Phi} {tmps : Tm} {ρ : Operand → Value} (h : Env P φ tmps ρ) : ∀ l : List (Nat × Operand), PRel φ (parts P tmps l) (l.map fun (i, x) => (i, ρ x))
  | [] => .nil
  | (_i, x) :: l => .cons (h x) (Env.parts h l)
theorem Env.opt {P : Program} {φ : Phi} {tmps : Tm} {ρ : Operand → Value} (h : Env P φ tmps ρ) (x : Option Operand) : ORelV φ (x.map (opd P tmps)) (x.map ρ) := by
  cases x with
  | none => trivial
  | some x => exact h x

/-- an operation is done -/
def Done (nx : Next) (u : Value) : Prop := nx = .value u ∨ (nx = .skip ∧ u = undef)

/-- what an operation comes to, at both -/
def OpOk (P : Program) (φ : Phi) (A : AW) (m : Sem Next) : OpRes → Prop
  | .val v => ∃ u, VRel φ v u ∧ ∀ w, m.run P w = .ok (.value u) w
  | .rd q => ∀ A w v, HRel φ A w.heap → evalRq P A q = some v → ∃ u, VRel φ v u ∧ m.run P w = .ok (.value u) w
  | .al ob v => ∀ w, ∃ obj u n s l, m.run P w = .ok (.value u) { w with heap := w.heap.push obj, drawn := n } ∧
      ∀ b, φ b = none → ORel (φ.put b (w.heap.size, s, l)) ob obj s l ∧ VRel (φ.put b (w.heap.size, s, l)) (v b) u
  | .ef v A' => ∀ w, HRel φ A w.heap → ∃ φ' nx u w', m.run P w = .ok nx w' ∧ Done nx u ∧ HRel φ' A' w'.heap ∧ VRel φ' v u ∧ Goes A.next φ A w φ' A' w'
  | .call (.fn f args) => ∃ args', VRels φ args args'.toList ∧ ∀ w, m.run P w = (callFunc f args').run P w
  | .call (.yield l args) => ∃ R s l' args', φ l = some (R, s, l') ∧ VRels φ args args'.toList ∧ ∀ w, m.run P w = (Instr.yield R args').run P w
  | .dfr (.call g cap args) => ∃ cap' args', VRels φ cap cap'.toList ∧ VRels φ args args'.toList ∧ ∀ w, m.run P w = .ok (.defer { target := .fn (.func g) cap', args := args' }) w
  | .dfr (.collected _) => False
  | .pan v => ∃ u, VRel φ v u ∧ ∀ w, m.run P w = .halt (.panic u) w
  | .rcvr => ∀ w, m.run P w = .ok .recover w
  | .pick n k => ∀ w, HRel φ A w.heap → ∃ i, i < n ∧ ∃ u w', m.run P w = .ok (.value u) w' ∧ HRel φ (k i).2 w'.heap ∧ VRel φ (k i).1 u ∧ Goes A.next φ A w φ (k i).2 w'
  | .bad => True

section
variable {P : Program} {φ : Phi} {A : AW}

theorem OpOk.gives {r : AV} {s : Sem Value} (h : Gives P φ r s) : OpOk P φ A (do pure (.value (← s))) (.val r) := by
  obtain ⟨u, h1, h2⟩ := h
  exact ⟨u, h1, fun w => by simp [h2]⟩
theorem OpOk.ofVal {o : Option AV} {s : Sem Value} (h : ∀ r, o = some r → Gives P φ r s) : OpOk P φ A (do pure (.value (← s))) (.ofVal o) := by
  cases o with
  | none => trivial
  | some r => exact .gives (h r rfl)
theorem OpOk.read {q : Rq} {s : Sem Value} (h : ReadOk P φ q s) : OpOk P φ A (do pure (.value (← s))) (.rd q) := by
  intro A w v H hv
  obtain ⟨u, h1, h2⟩ := h A w v H hv
  exact ⟨u, h1, by simp [h2]⟩
theorem OpOk.alloc {ob : AObj} {v : Nat → AV} {s : Sem Value} (h : AllocOk P φ ob v s) : OpOk P φ A (do pure (.value (← s))) (.al ob v) := by
  intro w
  obtain ⟨obj, u, n, s', l, h1, h2⟩ := h w
  exact ⟨obj, u, n, s', l, by simp [h1], h2⟩

theorem push_modify {α : Type} (a : Array α) (x : α) (f : α → α) : (a.push x).modify a.size f = a.push (f x) := by
  apply Array.ext
  · simp
  · intro i h1 h2
    rw [Array.getElem_modify]
    by_cases hi : a.size = i
    · subst hi; simp
    · rw [if_neg hi, Array.getElem_push_lt, Array.getElem_push_lt] <;> (simp at h1 h2; omega)

theorem strBytes_ok {e : TypeId} {s : ByteArray} : AllocOk P φ (.cells e ((bytesOfStr s).map fun n => .int .u8 (Int.ofNat n)) false none) (fun b => .slice (some (b, 0)) (bytesOfStr s).length (bytesOfStr s).length 1 false) (Conv.stringToBytes e s) := by
  intro w
  let cap := s.size + (w.tape w.drawn (.appendCap s.size 0 e)) % (2 ^ 63 - s.size)
  let c : Array Value := (s.data.map fun b => Value.int .u8 b.toNat) ++ Array.replicate (cap - s.size) (.int .u8 0)
  have hcs : c.size = cap := by simp only [c, Array.size_append, Array.size_map, Array.size_replicate, cap]; show s.data.size + _ = _; have : s.data.size = s.size := rfl; omega
  refine ⟨.cells c e (c.size, c.size + 1), .slice (some ⟨w.heap.size, 0, none⟩) s.size cap, w.drawn + 1, 0, c.size, ?_, fun b hb => ⟨.cells (.inr ⟨rfl, rfl⟩) (by omega) ?_ ?_ ?_ (fun _ => .inr (.inr (by omega))), ?_⟩⟩
  · simp only [Conv.stringToBytes, Sem.run_bind, choose, Sem.run, Question.forced, Question.cut, Bool.false_eq_true, if_false, Result.andThen_ok, newRow, newObj, markStringish, shape, freeze, Pure.pure]
    simp only [World.shape?, Array.getElem?_push_size, Sem.run, World.freeze, push_modify, Nat.one_ne_zero, if_false, beq_self_eq_true, if_true, Result.andThen_ok]
    rfl
  · simp only [List.length_map, bytesOfStr_length]; omega
  · refine VRels.of_get ?_ fun i x y hx hy => ?_
    · simp only [List.drop_zero, List.length_map, List.length_take, Array.length_toList, bytesOfStr_length]; omega
    · rw [List.getElem?_map] at hx
      simp only [List.drop_zero, List.length_map, List.getElem?_take, Array.getElem?_toList] at hy
      split at hy
      · rename_i hi
        rw [bytesOfStr_length] at hi
        simp only [c] at hy
        rw [Array.getElem?_append_left (by simp; exact hi)] at hy
        simp only [Array.getElem?_map] at hy
        unfold bytesOfStr at hx
        rw [List.getElem?_map, Array.getElem?_toList] at hx
        cases hd : s.data[i]? with
        | none => rw [hd] at hy; cases hy
        | some u =>
          rw [hd] at hx hy
          simp only [Option.map_some, Option.some.injEq] at hx hy
          subst hx hy
          exact .int _ _
      · cases hy
  · intro v hv
    have hv := List.mem_of_mem_drop (List.mem_of_mem_take hv)
    simp only [c, Array.toList_append, List.mem_append, Array.mem_toList_iff, Array.mem_map, Array.mem_replicate] at hv
    rcases hv with ⟨_, _, rfl⟩ | ⟨_, rfl⟩ <;> rfl
  · rw [bytesOfStr_length]
    exact .slice (Phi.put_same _ _ _) (by omega) (fun h => by cases h) (Nat.le_refl _) (by omega) (fun _ => rfl)

end
end Go.Ae
