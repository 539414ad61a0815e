/- The abstract interpreter: values are trees, memory is a short list of blocks that the call itself owns. -/
import Derived.Calls
import Derived.Orders
namespace Go.Proofs.Abs
open Go
noncomputable section

inductive AV where
  | bool (b : Bool)
  | int (k : IntKind) (n : Int)
  | str (s : List UInt8)
  | ptr (id off : Nat)
  | nilp
  | fptr (cells : List AV) (off : Nat)
  | gptr (g off : Nat)
  | fsl (full : Bool) (es : List AV)
  | rsl (own : Bool) (id off len sz : Nat)
  | nilsl
  | map (id : Nat)
  | nilmap
  | func (fn : Fn) (first captured : List AV)
  | nilFunc
  | iface (t : TypeId) (v : AV)
  | nilIface
  | agg (cells : List AV)
  | tuple (vs : List AV)
  deriving Inhabited

def undefA : AV := .tuple []

def AV.cells : AV → List AV
  | .agg cs => cs
  | v => [v]

def AV.one : AV → Bool
  | .agg _ | .tuple _ => false
  | _ => true

inductive Blk where
  | cells (l : List AV)
  | siter (s : List UInt8) (pos : Nat)
  | mapb (cl : Nat) (st : List Nat) (es : List (AV × AV))
  | miter (m since : Nat) (seen : List Nat) (last : Nat)
  deriving Inhabited

abbrev Heap := List (Nat × Option Blk)

def hget : Heap → Nat → Option Blk
  | [], _ => none
  | (i, b) :: t, id => match Nat.beq i id with
    | true => b
    | false => hget t id

def hset : Heap → Nat → Option Blk → Heap
  | [], id, b => [(id, b)]
  | (i, c) :: t, id, b =>
    match Nat.beq i id with
    | true => (id, b) :: t
    | false => match Nat.blt i id with
      | true => (id, b) :: (i, c) :: t
      | false => (i, c) :: hset t id b

def hins (H : Heap) (id : Nat) (b : Blk) : Heap := hset H id (some b)
def hdel (H : Heap) (id : Nat) : Heap := hset H id none

/-- What an operation does, once its operands are known. -/
inductive Eff where
  | val (v : AV)
  | skip
  | read (id : Nat) (k : Blk → Option Eff)
  | upd (id : Nat) (k : Blk → Option (Blk × AV))
  | new (b : Blk) (k : Nat → AV)
  | repl (id : Nat) (k : Blk → Option (Blk × (Nat → AV)))
  | shut (id : Nat) (k : Blk → Option AV)
  | call (f : FuncId) (args : List AV)

def getN {α : Type} : List α → Nat → Option α
  | [], _ => none
  | a :: _, 0 => some a
  | _ :: t, n + 1 => getN t n

def setN {α : Type} : List α → Nat → α → List α
  | [], _, _ => []
  | _ :: t, 0, x => x :: t
  | a :: t, n + 1, x => a :: setN t n x

/-- A tree of slots: number 0 at the root, an odd one to the left, an even one to the right. -/
inductive Tr where
  | tip
  | node (v : Option AV) (l r : Tr)
  deriving Inhabited

-- BEGIN TREE
noncomputable def Tr.get (t : Tr) : Nat → Option AV :=
  Tr.rec (fun _ => none) (fun v _ _ gl gr k =>
    Bool.rec (Bool.rec (gr (k / 2 - 1)) (gl (k / 2)) (Nat.beq (k % 2) 1)) v (Nat.beq k 0)) t

/-- Laid down by fuel: as deep as numbers below 2^fuel - 1 need. -/
noncomputable def Tr.set (d : Nat) : Tr → Nat → AV → Tr :=
  Nat.rec (fun t _ _ => t) (fun _ ih t k x =>
    Tr.rec
      (Bool.rec (Bool.rec (.node none .tip (ih .tip (k / 2 - 1) x)) (.node none (ih .tip (k / 2) x) .tip) (Nat.beq (k % 2) 1)) (.node (some x) .tip .tip) (Nat.beq k 0))
      (fun v l r _ _ => Bool.rec (Bool.rec (.node v l (ih r (k / 2 - 1) x)) (.node v (ih l (k / 2) x) r) (Nat.beq (k % 2) 1)) (.node (some x) l r) (Nat.beq k 0)) t) d
-- END TREE

def lenN {α : Type} : List α → Nat
  | [] => 0
  | _ :: t => lenN t + 1

/-- Lay cells over a row from a place on; none if they do not fit. -/
def splice : List AV → Nat → List AV → Option (List AV)
  | l, _, [] => some l
  | [], _, _ :: _ => none
  | _ :: t, 0, v :: vs => (splice t 0 vs).map (v :: ·)
  | a :: t, n + 1, vs => (splice t n vs).map (a :: ·)

/-- n cells from a place on; none if they are not there. -/
def chunk : List AV → Nat → Nat → Option (List AV)
  | _, _, 0 => some []
  | [], _, _ + 1 => none
  | a :: t, 0, n + 1 => (chunk t 0 n).map (a :: ·)
  | _ :: t, o + 1, n + 1 => chunk t o (n + 1)

/-- A value of one cell that leads nowhere. -/
def ofOne : Value → Option AV
  | .bool b => some (.bool b)
  | .int k n => some (.int k n)
  | .string s => some (.str s.data.toList)
  | .pointer none => some .nilp
  | .slice none 0 0 => some .nilsl
  | .map none => some .nilmap
  | .nilFunc => some .nilFunc
  | .nilIface => some .nilIface
  | _ => none
def ofOnes : List Value → Option (List AV)
  | [] => some []
  | v :: vs => match ofOne v with
    | some a => match ofOnes vs with
      | some l => some (a :: l)
      | none => none
    | none => none
def ofValue : Value → Option AV
  | .agg cs => match ofOnes cs.toList with
    | some l => some (.agg l)
    | none => none
  | .tuple vs => match vs.toList with
    | [] => some (.tuple [])
    | _ => none
  | v => ofOne v

def wrapA (k : IntKind) (n : Int) : Int :=
  match k, n with
  | .i64, .ofNat m => match Nat.ble m 9223372036854775807 with
    | true => .ofNat m
    | false => k.wrap n
  | .i64, .negSucc m => match Nat.ble m 9223372036854775807 with
    | true => .negSucc m
    | false => k.wrap n
  | .u8, .ofNat m => match Nat.ble m 255 with
    | true => .ofNat m
    | false => k.wrap n
  | .u32, .ofNat m => match Nat.ble m 4294967295 with
    | true => .ofNat m
    | false => k.wrap n
  | .u64, .ofNat m => match Nat.ble m 18446744073709551615 with
    | true => .ofNat m
    | false => k.wrap n
  | k, n => k.wrap n

def beqBytes : List UInt8 → List UInt8 → Bool
  | [], [] => true
  | a :: x, b :: y => match Nat.beq a.toNat b.toNat with
    | true => beqBytes x y
    | false => false
  | _, _ => false

def ltBytes : List UInt8 → List UInt8 → Bool
  | _, [] => false
  | [], _ :: _ => true
  | a :: x, b :: y => match Nat.blt a.toNat b.toNat with
    | true => true
    | false => match Nat.beq a.toNat b.toNat with
      | true => ltBytes x y
      | false => false

def beqInt : Int → Int → Bool
  | .ofNat a, .ofNat b => Nat.beq a b
  | .negSucc a, .negSucc b => Nat.beq a b
  | _, _ => false
def ltInt : Int → Int → Bool
  | .ofNat a, .ofNat b => Nat.blt a b
  | .negSucc a, .negSucc b => Nat.blt b a
  | .negSucc _, .ofNat _ => true
  | .ofNat _, .negSucc _ => false

section
variable (P : Program)

def sizeA (t : TypeId) : Option Nat := (P.info? t).map (·.size)
def isAggA (t : TypeId) : Option Bool := (P.underlying t).map fun
  | .struct _ | .array _ _ => true
  | _ => false
def zeroA (t : TypeId) : Option AV := do ofValue (← (← P.info? t).zero)

/-- A part of type t of a row of cells. -/
def partA (t : TypeId) (cs : List AV) (off : Nat) : Option AV :=
  match isAggA P t with
  | some true => match sizeA P t with
    | some n => (chunk cs off n).map .agg
    | none => none
  | some false => getN cs off
  | none => none

def allOne : List AV → Bool
  | [] => true
  | a :: t => a.one && allOne t

def loadA (t : TypeId) (a : AV) (glob : Nat → Option (List AV)) : Option Eff :=
  match a with
  | .ptr id off => some <| .read id fun
    | .cells l => (partA P t l off).map .val
    | _ => none
  | .fptr cs off => (partA P t cs off).map .val
  | .gptr g off => match glob g with
    | some l => (partA P t l off).map .val
    | none => none
  | _ => none

def storeA (t : TypeId) (a v : AV) : Option Eff :=
  match a with
  | .ptr id off => match sizeA P t with
    | some n => if Nat.beq (lenN v.cells) n && allOne v.cells then
        some <| .upd id fun
          | .cells l => (splice l off v.cells).map fun l' => (.cells l', undefA)
          | _ => none
      else none
    | none => none
  | _ => none

def nilCheckA : AV → Option AV
  | .ptr i o => some (.ptr i o)
  | .fptr c o => some (.fptr c o)
  | .gptr g o => some (.gptr g o)
  | .iface t v => some (.iface t v)
  | .func (.func f) a b => some (.func (.func f) a b)
  | _ => none

/-- Are all fields equal? -/
def equalF (eq : TypeId → AV → AV → Option Bool) : List Field → List AV → List AV → Option Bool
  | [], _, _ => some true
  | f :: fs, xs, ys =>
    match f.name == "_" with
    | true => equalF eq fs xs ys
    | false => match partA P f.type xs f.offset, partA P f.type ys f.offset with
      | some a, some b => match eq f.type a b with
        | some true => equalF eq fs xs ys
        | some false => some false
        | none => none
      | _, _ => none

/-- Are two values of a type equal? -/
def equalA : Nat → TypeId → AV → AV → Option Bool
  | 0, _, _, _ => none
  | d + 1, t, x, y =>
    match P.underlying t, x, y with
    | some .bool, .bool a, .bool b => some (a == b)
    | some (.int _), .int k a, .int k' b => if k = k' then some (beqInt a b) else none
    | some .string, .str a, .str b => some (beqBytes a b)
    | some (.struct fs), .agg xs, .agg ys => if P.stoodInHeld t then none else equalF P (equalA d) fs.toList xs ys
    | some (.pointer _), .nilp, .nilp => some true
    | some (.pointer _), .nilp, .ptr _ _ => some false
    | some (.pointer _), .ptr _ _, .nilp => some false
    | some (.pointer _), .nilp, .fptr _ _ => some false
    | some (.pointer _), .fptr _ _, .nilp => some false
    | some (.func _ _ _), .nilFunc, .nilFunc => some true
    | some (.func _ _ _), .func _ _ _, .nilFunc => some false
    | some (.func _ _ _), .nilFunc, .func _ _ _ => some false
    | some (.slice _), .nilsl, .nilsl => some true
    | some (.slice _), .rsl _ _ _ _ _, .nilsl => some false
    | some (.slice _), .fsl _ _, .nilsl => some false
    | some (.map _ _), .nilmap, .nilmap => some true
    | some (.map _ _), .map _, .nilmap => some false
    | some (.interface _), .nilIface, .nilIface => some true
    | some (.interface _), .iface _ _, .nilIface => some false
    | some (.interface _), .nilIface, .iface _ _ => some false
    | _, _, _ => none
def isConstNil : Operand → Bool
  | .const .nilIface => true
  | _ => false

def binA (op : BinOp) (t : TypeId) (xo yo : Operand) (x y : AV) : Option AV :=
  match op, x, y with
  | .shl, .int k a, .int _ b => if ltInt b 0 then none else some (.int k (wrapA k (a * 2 ^ min b.toNat k.bits)))
  | .shr, .int k a, .int _ b => if ltInt b 0 then none else some (.int k (a.fdiv (2 ^ min b.toNat k.bits)))
  | op, .int k a, .int k' b =>
    if k ≠ k' then none else
    match op with
    | .add => some (.int k (wrapA k (a + b)))
    | .sub => some (.int k (wrapA k (a - b)))
    | .mul => some (.int k (wrapA k (a * b)))
    | .quo => if beqInt b 0 then none else some (.int k (wrapA k (a.tdiv b)))
    | .rem => if beqInt b 0 then none else some (.int k (a.tmod b))
    | .and => some (.int k (wrapA k (BitVec.ofInt k.bits a &&& BitVec.ofInt k.bits b).toNat))
    | .or => some (.int k (wrapA k (BitVec.ofInt k.bits a ||| BitVec.ofInt k.bits b).toNat))
    | .xor => some (.int k (wrapA k (BitVec.ofInt k.bits a ^^^ BitVec.ofInt k.bits b).toNat))
    | .andNot => some (.int k (wrapA k (BitVec.ofInt k.bits a &&& ~~~ BitVec.ofInt k.bits b).toNat))
    | .eql => some (.bool (beqInt a b))
    | .neq => some (.bool (!beqInt a b))
    | .lss => some (.bool (ltInt a b))
    | .leq => some (.bool (!ltInt b a))
    | .gtr => some (.bool (ltInt b a))
    | .geq => some (.bool (!ltInt a b))
    | _ => none
  | op, .str a, .str b =>
    match op with
    | .add => if Nat.ble (lenN a + lenN b) 9223372036854775807 then some (.str (a ++ b)) else none
    | .eql => some (.bool (beqBytes a b))
    | .neq => some (.bool (!beqBytes a b))
    | .lss => some (.bool (ltBytes a b))
    | .leq => some (.bool (ltBytes a b || beqBytes a b))
    | .gtr => some (.bool (!(ltBytes a b || beqBytes a b)))
    | .geq => some (.bool (!ltBytes a b))
    | _ => none
  | .eql, .agg a, .agg b => if P.eqGuardType P.depth t then none else (equalA P 16 t (.agg a) (.agg b)).map .bool
  | .neq, .agg a, .agg b => if P.eqGuardType P.depth t then none else (equalA P 16 t (.agg a) (.agg b)).map (.bool !·)
  | .eql, .nilIface, .nilIface => if isConstNil xo || isConstNil yo then (equalA P 16 t x y).map .bool else none
  | .neq, .nilIface, .nilIface => if isConstNil xo || isConstNil yo then (equalA P 16 t x y).map (.bool !·) else none
  | .eql, x, y => (equalA P 16 t x y).map .bool
  | .neq, x, y => (equalA P 16 t x y).map (.bool !·)
  | _, _, _ => none

def unA (op : UnOp) (x : AV) : Option AV :=
  match op, x with
  | .neg, .int k n => some (.int k (wrapA k (0 - n)))
  | .xor, .int k n => some (.int k (wrapA k (BitVec.ofInt k.bits (if k.signed then -1 else k.max) ^^^ BitVec.ofInt k.bits n).toNat))
  | .not, .bool b => some (.bool !b)
  | _, _ => none

def bytesOf : List AV → Option (List UInt8)
  | [] => some []
  | .int .u8 n :: t => (bytesOf t).map (UInt8.ofNat n.toNat :: ·)
  | _ => none

def toBytes : List UInt8 → List AV
  | [] => []
  | b :: t => .int .u8 (.ofNat b.toNat) :: toBytes t

def strO : Option (List UInt8) → Option Eff
  | some s => some (.val (.str s))
  | none => none

def isByteType (e : TypeId) : Bool := match P.underlying e with
  | some (.int .u8) => true
  | _ => false

def convToStr (x : AV) : Option Eff :=
  match x with
  | .fsl _ es => strO (bytesOf es)
  | .nilsl => some (.val (.str []))
  | .rsl _ id off len _ => some <| .read id fun
    | .cells l => match chunk l off len with
      | some cs => strO (bytesOf cs)
      | none => none
    | _ => none
  | _ => none

/-- Bytes of a row of the call's own, converted to their own type: the row is written no more. -/
def shutA (x : AV) : Option Eff :=
  match x with
  | .rsl true id 0 len 1 => some <| .shut id fun
    | .cells l => match chunk l 0 len with
      | some cs => match allOne cs with
        | true => some (.fsl false cs)
        | false => none
      | none => none
    | _ => none
  | _ => none

def convA (src dst : TypeId) (x : AV) : Option Eff :=
  match P.underlying src, P.underlying dst, x with
  | some _, some (.int k), .int _ n => some (.val (.int k (wrapA k n)))
  | some _, some .string, .str s => some (.val (.str s))
  | some _, some (.slice e), .str s => match isByteType P e with
    | true => some (.val (.fsl false (toBytes s)))
    | false => none
  | some (.slice _), some (.slice e), x => match decide (src = dst) && isByteType P e with
    | true => shutA x
    | false => none
  | some (.slice e), some .string, x => match isByteType P e with
    | true => convToStr x
    | false => none
  | _, _, _ => none

def elemOfA (t : TypeId) : Option TypeId := match P.underlying t with
  | some (.slice e) => some e
  | _ => none

def natOf : AV → Option Nat
  | .int _ (.ofNat n) => some n
  | _ => none

/-- The cells of a list of elements. -/
def flat : List AV → List AV
  | [] => []
  | e :: t => e.cells ++ flat t

def repE (z : AV) : Nat → List AV
  | 0 => []
  | n + 1 => z :: repE z n

def makeSliceA (t : TypeId) (l c : AV) : Option Eff :=
  match elemOfA P t, natOf l, natOf c with
  | some e, some l, some c => match P.info? e, zeroA P e with
    | some i, some z =>
      match Nat.ble l c && Nat.ble (i.bytes * c) 281474976710656 && Nat.ble c 9223372036854775807 && Nat.beq (lenN z.cells) i.size && Nat.blt 0 i.size with
      | true => some (.new (.cells (flat (repE z c))) fun id => .rsl true id 0 l i.size)
      | false => none
    | _, _ => none
  | _, _, _ => none

def optNat : Option AV → Option (Option Nat)
  | none => some none
  | some v => (natOf v).map some

/-- Cut a row of elements into a slice's own. -/
def cutA (es : List AV) (l h : Nat) : Option (List AV) := chunk es l (h - l)

def headSize (sz : Nat) : List AV → Bool
  | [] => true
  | e :: _ => Nat.beq (lenN e.cells) sz

def sliceStr (t : TypeId) (s : List UInt8) (lo hi mx : Option Nat) : Option Eff :=
  match P.underlying t with
  | some .string =>
    match mx.isNone && Nat.ble (lo.getD 0) (hi.getD (lenN s)) && Nat.ble (hi.getD (lenN s)) (lenN s) with
    | true => some (.val (.str ((s.drop (lo.getD 0)).take (hi.getD (lenN s) - lo.getD 0))))
    | false => none
  | _ => none

def fslFull (full : Bool) (mx : Option Nat) (h n : Nat) : Bool := match mx with
  | some m => Nat.beq m h
  | none => full && Nat.beq h n

def rslCut (own : Bool) (id off l h sz : Nat) : AV := match Nat.beq l 0 with
  | true => .rsl own id off h sz
  | false => match Nat.beq l h with
    | true => .fsl false []
    | false => .rsl own id (off + l * sz) (h - l) sz

def sliceFsl (t : TypeId) (full : Bool) (es : List AV) (lo hi mx : Option Nat) : Option Eff :=
  match elemOfA P t with
  | some e => match sizeA P e with
    | some sz =>
      match headSize sz es && Nat.ble (lo.getD 0) (hi.getD (lenN es)) && Nat.ble (hi.getD (lenN es)) (lenN es) &&
          (match mx with | some m => Nat.ble (hi.getD (lenN es)) m && Nat.ble m (lenN es) && hi.isSome | none => true) with
      | true => match cutA es (lo.getD 0) (hi.getD (lenN es)) with
        | some es' => some (.val (.fsl (fslFull full mx (hi.getD (lenN es)) (lenN es)) es'))
        | none => none
      | false => none
    | none => none
  | none => none

def sliceRsl (t : TypeId) (own : Bool) (id off len sz' : Nat) (lo hi mx : Option Nat) : Option Eff :=
  match elemOfA P t with
  | some e => match sizeA P e with
    | some sz =>
      match Nat.beq sz sz' && Nat.ble (lo.getD 0) (hi.getD len) && (match mx with | some m => Nat.ble (hi.getD len) m && Nat.ble m len && hi.isSome | none => true) with
      | true =>
        match Nat.ble (hi.getD len) len with
        | true => some (.val (rslCut (own && mx.isNone) id off (lo.getD 0) (hi.getD len) sz))
        | false => match own && Nat.blt 0 sz with
          | true => some <| .read id fun
            | .cells c => match Nat.ble (off + hi.getD len * sz) (lenN c) with
              | true => some (.val (rslCut (own && mx.isNone) id off (lo.getD 0) (hi.getD len) sz))
              | false => none
            | _ => none
          | false => none
      | false => none
    | none => none
  | none => none

def sliceArr (t : TypeId) (id off : Nat) (lo hi mx : Option Nat) : Option Eff :=
  match P.underlying t with
  | some (.array n e) => match sizeA P e with
    | some sz =>
      match mx.isNone && Nat.ble (lo.getD 0) (hi.getD n) && Nat.ble (hi.getD n) n with
      | true => match Nat.beq (lo.getD 0) (hi.getD n) with
        | true => some (.val (.fsl false []))
        | false => some (.val (.rsl false id (off + lo.getD 0 * sz) (hi.getD n - lo.getD 0) sz))
      | false => none
    | none => none
  | _ => none

def sliceNil (t : TypeId) (lo hi mx : Option Nat) : Option Eff :=
  match elemOfA P t with
  | some e => match sizeA P e with
    | some _ => match Nat.beq (lo.getD 0) 0 && Nat.beq (hi.getD 0) 0 && Nat.beq (mx.getD 0) 0 && (mx.isNone || hi.isSome) with
      | true => some (.val .nilsl)
      | false => none
    | none => none
  | none => none

def sliceA (t : TypeId) (x : AV) (lo hi mx : Option AV) : Option Eff :=
  match optNat lo, optNat hi, optNat mx with
  | some lo, some hi, some mx => match x with
    | .str s => sliceStr P t s lo hi mx
    | .fsl full es => sliceFsl P t full es lo hi mx
    | .nilsl => sliceNil P t lo hi mx
    | .rsl own id off len sz' => sliceRsl P t own id off len sz' lo hi mx
    | .ptr id off => sliceArr P t id off lo hi mx
    | _ => none
  | _, _, _ => none

def fieldOf (t : TypeId) (f : Nat) : Option Field := match P.underlying t with
  | some (.struct fs) => fs[f]?
  | _ => none

def fieldAddrA (t : TypeId) (x : AV) (f : Nat) : Option AV :=
  match fieldOf P t f with
  | some fd => match sizeA P fd.type with
    | some (_ + 1) => match x with
      | .ptr id off => some (.ptr id (off + fd.offset))
      | .fptr cs off => some (.fptr cs (off + fd.offset))
      | .gptr g off => some (.gptr g (off + fd.offset))
      | _ => none
    | _ => none
  | none => none

def indexAddrA (t : TypeId) (x i : AV) : Option AV := do
  let i ← natOf i
  match P.underlying t with
  | some (.array n e) =>
    let sz ← sizeA P e
    if Nat.blt i n then
      match x with
      | .ptr id off => some (.ptr id (off + i * sz))
      | .fptr cs off => some (.fptr cs (off + i * sz))
      | .gptr g off => some (.gptr g (off + i * sz))
      | _ => none
    else none
  | some (.slice e) =>
    let sz ← sizeA P e
    match x with
    | .fsl _ es => match getN es i with
      | some v => if Nat.beq (lenN v.cells) sz then some (.fptr v.cells 0) else none
      | none => none
    | .rsl _ id off len sz' => if Nat.blt i len && Nat.beq sz sz' then some (.ptr id (off + i * sz)) else none
    | _ => none
  | _ => none

def indexA (t : TypeId) (x i : AV) : Option AV := do
  let i ← natOf i
  match P.underlying t, x with
  | some (.array n e), .agg cs => if Nat.blt i n then do partA P e cs (i * (← sizeA P e)) else none
  | some .string, .str s => (getN s i).map fun b => .int .u8 (.ofNat b.toNat)
  | _, _ => none

/-- Lay parts into zero cells. -/
def fillA (place : Nat → Option (Nat × Nat)) : List AV → List (Nat × AV) → Option (List AV)
  | cells, [] => some cells
  | cells, (i, v) :: rest =>
    match place i with
    | some (off, size) => if Nat.beq (lenN v.cells) size && Nat.blt 0 size then
        match splice cells off v.cells with
        | some c => fillA place c rest
        | none => none
      else none
    | none => none

def placesA : List Field → Option (List (Nat × Nat))
  | [] => some []
  | f :: fs => match sizeA P f.type with
    | some s => match placesA fs with
      | some l => some ((f.offset, s) :: l)
      | none => none
    | none => none

def aggO : Option (List AV) → Option AV
  | some l => some (.agg l)
  | none => none

def buildA (t : TypeId) (parts : List (Nat × AV)) : Option AV :=
  match zeroA P t, P.underlying t with
  | some z, some (.struct fs) => match placesA P fs.toList with
    | some pl => aggO (fillA (getN pl) z.cells parts)
    | none => none
  | some z, some (.array _ e) => match sizeA P e with
    | some s => aggO (fillA (fun i => some (i * s, s)) z.cells parts)
    | none => none
  | _, _ => none

def fillS (sz : Nat) : List AV → List (Nat × AV) → Option (List AV)
  | es, [] => some es
  | es, (i, v) :: rest => if Nat.beq (lenN v.cells) sz && Nat.blt i (lenN es) then fillS sz (setN es i v) rest else none

def fslO : Option (List AV) → Option AV
  | some l => some (.fsl true l)
  | none => none

def buildSliceA (t : TypeId) (len : Nat) (parts : List (Nat × AV)) : Option AV :=
  match elemOfA P t with
  | some e => match sizeA P e, zeroA P e with
    | some sz, some z => match Nat.ble (len * sz) 16777216 && Nat.beq (lenN z.cells) sz && Nat.blt 0 sz with
      | true => fslO (fillS sz (repE z len) parts)
      | false => none
    | _, _ => none
  | none => none

def allSize (sz : Nat) : List AV → Bool
  | [] => true
  | e :: t => Nat.beq (lenN e.cells) sz && allSize sz t

/-- Cells cut into elements of a size. -/
def mkElem : List AV → AV
  | [.agg cs] => .agg [.agg cs]
  | [v] => v
  | cs => .agg cs

def cutElems (sz : Nat) : Nat → List AV → Option (List AV)
  | 0, _ => some []
  | n + 1, l => match chunk l 0 sz with
    | some c => (cutElems sz n (l.drop sz)).map (mkElem c :: ·)
    | none => none

/-- The cells that append, copy take from a source. -/
def srcA (sz : Nat) (x : AV) (k : Nat → List AV → Option Eff) : Option Eff :=
  match x with
  | .fsl _ es => if allSize sz es then k (lenN es) (flat es) else none
  | .nilsl => k 0 []
  | .str s => if Nat.beq sz 1 then k (lenN s) (toBytes s) else none
  | .rsl _ id off len _ => some <| .read id fun
    | .cells l => match chunk l off (len * sz) with
      | some cs => k len cs
      | none => none
    | _ => none
  | _ => none

/-- The cells that append takes: of a slice, a string, or so many zeros. -/
def appSrc (xd : TypeDesc) (sz bytes : Nat) (z x : AV) (k : Nat → List AV → Option Eff) : Option Eff :=
  match xd with
  | .slice _ | .string => srcA sz x k
  | .int _ => match x with
    | .int _ (.ofNat n) => match Nat.ble n 9223372036854775807 && Nat.ble (n * bytes) 281474976710656 with
      | true => k n (flat (repE z n))
      | false => none
    | _ => none
  | _ => none

def appendA (argTypes : Array TypeId) (s x : AV) : Option Eff :=
  match argTypes[0]?, argTypes[1]? with
  | some st, some xt =>
    match P.underlying st, P.underlying xt with
    | some (.slice e), some xd =>
      match P.info? e, zeroA P e with
      | some i, some z =>
        if Nat.beq i.size 0 || Nat.beq i.bytes 0 || !Nat.beq (lenN z.cells) i.size then none else
        appSrc xd i.size i.bytes z x fun n cs =>
          match s with
          | .nilsl => if Nat.beq n 0 then some (.val .nilsl) else
              if Nat.ble (n * i.bytes) 140737488355328 then some (.new (.cells cs) fun id => .rsl true id 0 n i.size) else none
          | .fsl true es => if Nat.beq n 0 then some (.val (.fsl true es)) else
              if Nat.ble ((lenN es + n) * i.bytes) 140737488355328 && allSize i.size es then some (.new (.cells (flat es ++ cs)) fun id => .rsl true id 0 (lenN es + n) i.size) else none
          | .fsl false es => if Nat.beq n 0 then some (.val (.fsl false es)) else none
          | .rsl true id 0 len sz =>
            if Nat.ble ((len + n) * i.bytes) 140737488355328 && allOne cs && Nat.beq sz i.size then
              some <| .repl id fun
                | .cells l =>
                  if Nat.ble ((len + n) * i.size) (lenN l) then
                    match splice l (len * i.size) cs with
                    | some l' => some (.cells l', fun id' => .rsl true id' 0 (len + n) i.size)
                    | none => none
                  else if Nat.ble (len * i.size) (lenN l) then
                    some (.cells (l.take (len * i.size) ++ cs), fun id' => .rsl true id' 0 (len + n) i.size)
                  else none
                | _ => none
            else none
          | _ => none
      | _, _ => none
    | _, _ => none
  | _, _ => none

def lenA (argTypes : Array TypeId) (x : AV) : Option Eff :=
  match argTypes[0]? with
  | some t => match P.underlying t, x with
    | some .string, .str s => some (.val (.int .i64 (.ofNat (lenN s))))
    | some (.array n _), _ => some (.val (.int .i64 (.ofNat n)))
    | some (.slice _), .fsl _ es => some (.val (.int .i64 (.ofNat (lenN es))))
    | some (.slice _), .nilsl => some (.val (.int .i64 0))
    | some (.slice _), .rsl _ _ _ n _ => some (.val (.int .i64 (.ofNat n)))
    | some (.map _ _), .nilmap => some (.val (.int .i64 0))
    | some (.map _ _), .map id => some <| .read id fun
      | .mapb _ _ es => some (.val (.int .i64 (.ofNat (lenN es))))
      | _ => none
    | _, _ => none
  | none => none

def copyA (argTypes : Array TypeId) (d x : AV) : Option Eff :=
  match argTypes[0]? with
  | some t => match elemOfA P t with
    | some e => match sizeA P e with
      | some sz =>
        match d with
        | .rsl _ id off len _ => srcA sz x fun n cs =>
            let m := min n len
            if allOne cs then some <| .upd id fun
              | .cells l => match splice l off (cs.take (m * sz)) with
                | some l' => some (.cells l', .int .i64 (.ofNat m))
                | none => none
              | _ => none
            else none
        | .nilsl => srcA sz x fun _ _ => some (.val (.int .i64 0))
        | .fsl _ [] => srcA sz x fun _ _ => some (.val (.int .i64 0))
        | _ => none
      | none => none
    | none => none
  | none => none

def clearA (argTypes : Array TypeId) (x : AV) : Option Eff :=
  match argTypes[0]? with
  | some t => match P.underlying t with
    | some (.slice e) => match sizeA P e, zeroA P e with
      | some sz, some z => if Nat.beq (lenN z.cells) sz && allOne z.cells && Nat.blt 0 sz then
          match x with
          | .nilsl => some (.val (.tuple []))
          | .fsl _ [] => some (.val (.tuple []))
          | .rsl _ id off len _ => some <| .upd id fun
            | .cells l => (splice l off (flat (repE z len))).map fun l' => (.cells l', .tuple [])
            | _ => none
          | _ => none
        else none
      | _, _ => none
    | _ => none
  | none => none

def keyEq : AV → AV → Option Bool
  | .str a, .str b => some (beqBytes a b)
  | .int k a, .int k' b => if k = k' then some (beqInt a b) else none
  | _, _ => none

def keyFind (k : AV) : List (AV × AV) → Option (Option AV)
  | [] => some none
  | (k', v) :: t => match keyEq k k' with
    | some true => some (some v)
    | some false => keyFind k t
    | none => none

def keySet (k v : AV) : List (AV × AV) → Option (List (AV × AV))
  | [] => some [(k, v)]
  | (k', v') :: t => match keyEq k k' with
    | some true => some ((k, v) :: t)
    | some false => match keySet k v t with
      | some u => some ((k', v') :: u)
      | none => none
    | none => none

def keyKindD (kd : TypeDesc) (k : AV) : Bool := match kd, k with
  | .string, .str _ => true
  | .int j, .int k _ => decide (j = k)
  | _, _ => false

def keyKind (kt : TypeId) (k : AV) : Bool := match P.underlying kt with
  | some kd => keyKindD kd k
  | none => false

def lookAns (ok : Bool) (z : AV) (r : Option AV) : AV := match ok, r with
  | true, some v => .tuple [v, .bool true]
  | true, none => .tuple [z, .bool false]
  | false, some v => v
  | false, none => z

def lookupA (t : TypeId) (m k : AV) (ok : Bool) : Option Eff :=
  match P.underlying t with
  | some (.map kt et) =>
    match keyKind P kt k, zeroA P et with
    | true, some z =>
      match m with
      | .nilmap => some (.val (lookAns ok z none))
      | .map id => some <| .read id fun
        | .mapb _ _ es => match keyFind k es with
          | some r => some (.val (lookAns ok z r))
          | none => none
        | _ => none
      | _ => none
    | _, _ => none
  | _ => none

def mapUpdateA (t : TypeId) (m k v : AV) : Option Eff :=
  match P.underlying t with
  | some (.map kt _) =>
    match keyKind P kt k with
    | true => match m with
      | .map id => some <| .upd id fun
        | .mapb cl st es => match keySet k v es with
          | some es' => match Nat.beq (lenN es') (lenN es) with
            | true => some (.mapb cl st es', undefA)
            | false => some (.mapb (cl + 1) (st ++ [cl]) es', undefA)
          | none => none
        | _ => none
      | _ => none
    | false => none
  | _ => none

/-- The place of a key. -/
def keyIdx (k : AV) : List (AV × AV) → Nat → Option (Option Nat)
  | [], _ => some none
  | (k', _) :: t, i => match keyEq k k' with
    | some true => some (some i)
    | some false => keyIdx k t (i + 1)
    | none => none

def deleteA (argTypes : Array TypeId) (m k : AV) : Option Eff :=
  match argTypes[0]? with
  | some t => match P.underlying t with
    | some (.map kt _) => match keyKind P kt k with
      | true => match m with
        | .map id => some <| .upd id fun
          | .mapb cl st es => match keyIdx k es 0 with
            | some (some i) => some (.mapb cl (st.eraseIdx i) (es.eraseIdx i), .tuple [])
            | some none => some (.mapb cl st es, .tuple [])
            | none => none
          | _ => none
        | _ => none
      | false => none
    | _ => none
  | none => none

/-- Numbers among numbers. -/
def memN : List Nat → Nat → Bool
  | [], _ => false
  | a :: t, x => match Nat.beq a x with
    | true => true
    | false => memN t x
def allLt : List Nat → Nat → Bool
  | [], _ => true
  | a :: t, n => Nat.blt a n && allLt t n

/-- The entries that were not met yet: what is told of each, the iterator behind it. -/
def altsA (m since : Nat) (seen : List Nat) (cl : Nat) : List Nat → List (AV × AV) → Option (List (AV × Blk))
  | [], [] => some []
  | s :: st, (k, v) :: es => match altsA m since seen cl st es with
    | some l => match memN seen s with
      | true => some l
      | false => some ((.tuple [.bool true, k, v], .miter m since (seen ++ [s]) cl) :: l)
    | none => none
  | _, _ => none

def nextL (it mp : Blk) : Option (List (AV × Blk)) :=
  match it, mp with
  | .miter m since seen last, .mapb cl st es => match allLt st since && Nat.ble since last with
    | true => altsA m since seen cl st es
    | false => none
  | _, _ => none

def rangeA (t : TypeId) (x : AV) : Option Eff :=
  match P.underlying t, x with
  | some (.map _ _), .map m => some <| .read m fun
    | .mapb cl _ _ => some (.new (.miter m cl [] cl) fun id => .ptr id 0)
    | _ => none
  | _, _ => none

def nextA (x : AV) (isString : Bool) : Option Eff :=
  match x, isString with
  | .ptr id 0, false => some <| .read id fun
    | .miter m since seen last => some <| .read m fun mp => match nextL (.miter m since seen last) mp with
      | some [] => some (.val (.tuple [.bool false]))
      | some [(v, b)] => some (.upd id fun
        | .miter _ _ _ _ => some (b, v)
        | _ => none)
      | _ => none
    | _ => none
  | _, _ => none

def lastN : List Nat → Option Nat
  | [] => none
  | [a] => some a
  | _ :: t => lastN t
def stampAt (s : Nat) : List Nat → List (AV × AV) → Option AV
  | a :: st, (k, v) :: es => match Nat.beq a s with
    | true => some (.tuple [k, v])
    | false => stampAt s st es
  | _, _ => none

def entryA (x : AV) : Option Eff :=
  match x with
  | .ptr id 0 => some <| .read id fun
    | .miter m _ seen last => some <| .read m fun
      | .mapb cl st es => match Nat.beq cl last, lastN seen with
        | true, some s => match stampAt s st es with
          | some v => some (.val v)
          | none => none
        | _, _ => none
      | _ => none
    | _ => none
  | _ => none

def minA : List AV → Option AV
  | [] => none
  | x :: rest => rest.foldlM (fun x y => match x, y with
    | .int k a, .int _ b => some (.int k (if ltInt b a then b else a))
    | _, _ => none) x
def maxA : List AV → Option AV
  | [] => none
  | x :: rest => rest.foldlM (fun x y => match x, y with
    | .int k a, .int _ b => some (.int k (if ltInt a b then b else a))
    | _, _ => none) x

def typeAssertA (x : AV) (asserted : TypeId) (ok : Bool) : Option AV :=
  match P.underlying asserted with
  | some (.interface _) => none
  | some _ => match x with
    | .iface t v => if t = asserted then some (if ok then .tuple [v, .bool true] else v)
      else if ok then (zeroA P asserted).map fun z => .tuple [z, .bool false] else none
    | .nilIface => if ok then (zeroA P asserted).map fun z => .tuple [z, .bool false] else none
    | _ => none
  | none => none

def builtinA (b : Builtin) (argTypes : Array TypeId) (args : List AV) : Option Eff :=
  match b, args with
  | .append, [s, x] => appendA P argTypes s x
  | .len, [x] => lenA P argTypes x
  | .copy, [d, x] => copyA P argTypes d x
  | .clear, [x] => clearA P argTypes x
  | .delete, [m, k] => deleteA P argTypes m k
  | .min, l => (minA l).map .val
  | .max, l => (maxA l).map .val
  | _, _ => none

/-- A method of a value behind an interface: no road through embedded fields, no value method through a pointer. -/
def methodA (t : TypeId) (name : String) : Option FuncId :=
  match P.info? t with
  | some i => match i.methods.find? (·.name == name) with
    | some m => match m.path.isEmpty with
      | true => match m.func, P.underlying t with
        | some (f, true), some (.pointer _) => some f
        | some (_, false), some (.pointer _) => none
        | some (f, false), some _ => some f
        | _, _ => none
      | false => none
    | none => none
  | none => none

/-- A value method of what a pointer leads to: the pointer's element type, the function. -/
def derefA (t : TypeId) (name : String) : Option (TypeId × FuncId) :=
  match P.info? t with
  | some i => match i.methods.find? (·.name == name) with
    | some m => match m.path.isEmpty with
      | true => match m.func, P.underlying t with
        | some (f, false), some (.pointer e) => some (e, f)
        | _, _ => none
      | false => none
    | none => none
  | none => none

def callWith (f : FuncId) (rest : List AV) : Eff → Option Eff
  | .val u => some (.call f (u :: rest))
  | _ => none

def viaMethod (glob : Nat → Option (List AV)) (t : TypeId) (v : AV) (name : String) (rest : List AV) : Option Eff :=
  match methodA P t name with
  | some f => some (.call f (v :: rest))
  | none => match derefA P t name with
    | some (e, f) => match loadA P e v glob with
      | some (.val u) => some (.call f (u :: rest))
      | some (.read id k) => some (.read id fun b => (k b).bind (callWith f rest))
      | _ => none
    | none => none

def callA (glob : Nat → Option (List AV)) (fn : Fn) (args captured : List AV) : Option Eff :=
  match fn with
  | .func f => some (.call f (args ++ captured))
  | .method name => match args with
    | .iface t v :: rest => viaMethod P glob t v name rest
    | _ => none
  | .methodOf t name => match args with
    | r :: rest => match P.underlying t with
      | some (.interface _) => match r with
        | .iface t' v => viaMethod P glob t' v name rest
        | _ => none
      | some _ => viaMethod P glob t r name rest
      | none => none
    | _ => none
  | _ => none

def mapOp (ev : Operand → Option AV) : List Operand → Option (List AV)
  | [] => some []
  | x :: t => match ev x with
    | some v => (mapOp ev t).map (v :: ·)
    | none => none
def mapParts (ev : Operand → Option AV) : List (Nat × Operand) → Option (List (Nat × AV))
  | [] => some []
  | (i, x) :: t => match ev x with
    | some v => (mapParts ev t).map ((i, v) :: ·)
    | none => none
def mapOpt (ev : Operand → Option AV) : Option Operand → Option (Option AV)
  | none => some none
  | some x => (ev x).map some

def e1 (ev : Operand → Option AV) (x : Operand) (k : AV → Option Eff) : Option Eff :=
  match ev x with
  | some v => k v
  | none => none
def e2 (ev : Operand → Option AV) (x y : Operand) (k : AV → AV → Option Eff) : Option Eff :=
  match ev x, ev y with
  | some v, some w => k v w
  | _, _ => none
def e3 (ev : Operand → Option AV) (x y z : Operand) (k : AV → AV → AV → Option Eff) : Option Eff :=
  match ev x, ev y, ev z with
  | some v, some w, some u => k v w u
  | _, _, _ => none
def valO : Option AV → Option Eff
  | some v => some (.val v)
  | none => none
def ePick (ev : Operand → Option AV) (c a b : Operand) : Option Eff :=
  match ev c with
  | some (.bool true) => valO (ev a)
  | some (.bool false) => valO (ev b)
  | _ => none
def boxEff (v : AV) : Option Eff := some (.new (.cells v.cells) fun id => .ptr id 0)
def eAlloc (t : TypeId) : Option Eff := match zeroA P t with
  | some z => boxEff z
  | none => none
def eBuild (ev : Operand → Option AV) (t : TypeId) (parts : Array (Nat × Operand)) : Option Eff :=
  match mapParts ev parts.toList with
  | some ps => valO (buildA P t ps)
  | none => none
def eBuildSlice (ev : Operand → Option AV) (t : TypeId) (n : Nat) (parts : Array (Nat × Operand)) : Option Eff :=
  match mapParts ev parts.toList with
  | some ps => valO (buildSliceA P t n ps)
  | none => none
/-- A new slice, its row the call's own. -/
def eBuildRow (ev : Operand → Option AV) (t : TypeId) (n : Nat) (parts : Array (Nat × Operand)) : Option Eff :=
  match eBuildSlice P ev t n parts with
  | some (.val (.fsl true es)) => match elemOfA P t with
    | some e => match sizeA P e with
      | some sz => some (.new (.cells (flat es)) fun id => .rsl true id 0 n sz)
      | none => none
    | none => none
  | _ => none
def eMkIface (ev : Operand → Option AV) (t : TypeId) (x : Operand) : Option Eff :=
  match P.underlying t with
  | some (.interface _) => none
  | some _ => match ev x with
    | some v => some (.val (.iface t v))
    | none => none
  | none => none
def eMkFunc (ev : Operand → Option AV) (fn : Fn) (a b : Array Operand) : Option Eff :=
  match mapOp ev a.toList, mapOp ev b.toList with
  | some a, some b => some (.val (.func fn a b))
  | _, _ => none
def eSlice (ev : Operand → Option AV) (t : TypeId) (x : Operand) (lo hi mx : Option Operand) : Option Eff :=
  match ev x, mapOpt ev lo, mapOpt ev hi, mapOpt ev mx with
  | some x, some lo, some hi, some mx => sliceA P t x lo hi mx
  | _, _, _, _ => none
def eField (ev : Operand → Option AV) (t : TypeId) (x : Operand) (f : Nat) : Option Eff :=
  match fieldOf P t f, ev x with
  | some fd, some (.agg cs) => valO (partA P fd.type cs fd.offset)
  | _, _ => none
def eExtract (ev : Operand → Option AV) (t : Operand) (i : Nat) : Option Eff :=
  match ev t with
  | some (.tuple vs) => valO (getN vs i)
  | _ => none
def eCall (glob : Nat → Option (List AV)) (ev : Operand → Option AV) (c : Call) : Option Eff :=
  match mapOp ev c.args.toList with
  | none => none
  | some args => match c.callee with
    | .builtin b => builtinA P b c.argTypes args
    | .value f => match ev f with
      | some (.func fn first captured) => callA P glob fn (first ++ args) captured
      | _ => none
    | .invoke r name => match ev r with
      | some v => callA P glob (.method name) (v :: args) []
      | none => none

def effA (glob : Nat → Option (List AV)) (ev : Operand → Option AV) (o : Oper) : Option Eff :=
  match o.op with
  | .move x => valO (ev x)
  | .assign x => valO (ev x)
  | .pick c a b => ePick ev c a b
  | .alloc t => eAlloc P t
  | .box _ x => e1 ev x boxEff
  | .build t parts => eBuild P ev t parts
  | .buildSlice t n parts => eBuildSlice P ev t n parts
  | .load t a => e1 ev a fun a => loadA P t a glob
  | .store t a x => e2 ev a x (storeA P t)
  | .nilCheck x => e1 ev x fun v => valO (nilCheckA v)
  | .binOp op t x y _ => e2 ev x y fun v w => valO (binA P op t x y v w)
  | .unOp op _ x => e1 ev x fun v => valO (unA op v)
  | .convert s d x => e1 ev x (convA P s d)
  | .makeInterface t x => eMkIface P ev t x
  | .makeFunc fn a b => eMkFunc ev fn a b
  | .makeMap _ none => some (.new (.mapb 0 [] []) .map)
  | .makeSlice t l c => e2 ev l c (makeSliceA P t)
  | .slice t x lo hi mx => eSlice P ev t x lo hi mx
  | .fieldAddr t x f => e1 ev x fun v => valO (fieldAddrA P t v f)
  | .field t x f => eField P ev t x f
  | .indexAddr t x i => e2 ev x i fun v w => valO (indexAddrA P t v w)
  | .index t x i => e2 ev x i fun v w => valO (indexA P t v w)
  | .lookup t m k ok => e2 ev m k fun m k => lookupA P t m k ok
  | .mapUpdate t m k v => e3 ev m k v (mapUpdateA P t)
  | .typeAssert x _ a ok => e1 ev x fun v => valO (typeAssertA P v a ok)
  | .extract t i => eExtract ev t i
  | .range t x => e1 ev x fun v => rangeA P t v
  | .next x b => e1 ev x fun v => nextA v b
  | .entry x => e1 ev x fun v => entryA v
  | .call c => eCall P glob ev c
  | _ => none

end

/-! ### States, regions, code -/

/-- Functions whose slices are written behind them: what is built for them is a row. -/
def rowTo (P : Program) (f : FuncId) : Bool := match P.funcs[f]? with
  | some fn => fn.name == "locksmith/locksmithlaw19.of"
  | none => false

def tmpIn (d : Nat) : List Operand → Bool
  | [] => false
  | .tmp x :: t => match Nat.beq x d with
    | true => true
    | false => tmpIn d t
  | _ :: t => tmpIn d t

/-- Is what an operation builds converted to its own type within the region, or handed to a function that wants a row? -/
def convertedIn (P : Program) : List Oper → Nat → Bool
  | [], _ => false
  | c :: t, d => match (match c.op with
      | .convert s u (.tmp x) => Nat.beq s u && Nat.beq x d
      | .call c => match c.callee with
        | .value (.func f) => tmpIn d c.args.toList && rowTo P f
        | _ => false
      | _ => false) with
    | true => true
    | false => convertedIn P t d

def effB (P : Program) (glob : Nat → Option (List AV)) (ops : List Oper) (ev : Operand → Option AV) (o : Oper) : Option Eff :=
  match o.op, o.dst with
  | .buildSlice t n parts, some d => match convertedIn P ops d with
    | true => eBuildRow P ev t n parts
    | false => effA P glob ev o
  | _, _ => effA P glob ev o

structure St where
  slots : Tr
  heap : Heap
  nx : Nat
  n : Nat

def evA (slots : Tr) : Operand → Option AV
  | .tmp t => slots.get t
  | .const v => ofValue v
  | .global g => some (.gptr g 0)
  | .func f => some (.func (.func f) [] [])

structure Foot where
  all : Bool
  r : List Nat
  w : List Nat

def disj : List Nat → List Nat → Bool
  | [], _ => true
  | a :: t, l => !memN l a && disj t l
def Foot.none (f : Foot) : Bool := !f.all && f.r.isEmpty && f.w.isEmpty
/-- An operation beside a call that says what it saw; it has made blocks from a number on. -/
def Foot.apart (f g : Foot) : Bool := match g.w with
  | n :: l => (allLt f.r n && allLt f.w n) && (disj f.w (g.r ++ l) && disj l f.r)
  | [] => false
def Foot.compat (f g : Foot) : Bool :=
  f.none || g.none || (match f.all, g.all with
    | false, false => disj f.w (g.r ++ g.w) && disj g.w f.r
    | false, true => f.apart g
    | true, false => g.apart f
    | true, true => false)

/-- How functions are called: arguments, the number kept for a new block, heap, next number; the answer: value, heap, next number, what was looked at and written. -/
abbrev Caller := FuncId → List AV → Nat → Heap → Nat → Option (AV × Heap × Nat × Foot)

/-- An effect carried out; `id` is the number kept for a new block. -/
def runEff (call : Caller) (id : Nat) : Nat → Eff → Heap → Nat → Option (AV × Heap × Nat × Foot)
  | _, .val v, h, nx => some (v, h, nx, ⟨false, [], []⟩)
  | _, .skip, h, nx => some (undefA, h, nx, ⟨false, [], []⟩)
  | _, .upd i k, h, nx => match hget h i with
    | some b => match k b with
      | some (b', v) => some (v, hins h i b', nx, ⟨false, [], [i]⟩)
      | none => none
    | none => none
  | _, .new b k, h, nx => some (k id, hins h id b, nx, ⟨false, [], [id]⟩)
  | _, .repl i k, h, nx => match hget h i with
    | some b => match k b with
      | some (b', v) => some (v id, hins (hdel h i) id b', nx, ⟨false, [], [i, id]⟩)
      | none => none
    | none => none
  | _, .shut i k, h, nx => match hget h i with
    | some b => match k b with
      | some v => some (v, hdel h i, nx, ⟨false, [], [i]⟩)
      | none => none
    | none => none
  | _, .call f args, h, nx => call f args id h nx
  | 0, .read _ _, _, _ => none
  | n + 1, .read i k, h, nx => match hget h i with
    | some b => match k b with
      | some e => match runEff call id n e h nx with
        | some (v, h', nx', ft) => some (v, h', nx', ⟨ft.all, i :: ft.r, ft.w⟩)
        | none => none
      | none => none
    | none => none

/-- Is an operation wanted: what stands in its guard's slot? -/
def wantedA (ops : List Oper) (o : Oper) (slots : Tr) : Option Bool :=
  match o.guard with
  | none => some true
  | some (j, want) => match getN ops j with
    | some g => match g.dst with
      | some d => match slots.get d with
        | some (.bool b) => some (b == want)
        | some (.tuple []) => some false
        | _ => none
      | none => none
    | none => none

def putA (n : Nat) (slots : Tr) : Option Tmp → AV → Tr
  | some d, v => match Nat.blt d n with
    | true => slots.set 12 d v
    | false => slots
  | none, _ => slots

section
variable (P : Program) (glob : Nat → Option (List AV)) (call : Caller)

def stepA (ops : List Oper) (id : Nat) (o : Oper) (s : St) : Option (St × Foot) :=
  match wantedA ops o s.slots with
  | some true => match effB P glob ops (evA s.slots) o with
    | some e => match runEff call id 2 e s.heap s.nx with
      | some (v, h, nx, ft) => some (⟨putA s.n s.slots o.dst v, h, nx, s.n⟩, ft)
      | none => none
    | none => none
  | some false => some (⟨putA s.n s.slots o.dst undefA, s.heap, s.nx, s.n⟩, ⟨false, [], []⟩)
  | none => none

/-- The operations in their order; behind them the feet, the last first. -/
def runOps (all : List Oper) (base : Nat) : List Oper → Nat → St → List (Nat × Foot) → Option (St × List (Nat × Foot))
  | [], _, s, acc => some (s, acc)
  | o :: rest, i, s, acc => match stepA P glob call all (base + i) o s with
    | some (s', ft) => runOps all base rest (i + 1) s' (match ft.none with | true => acc | false => (i, ft) :: acc)
    | none => none

end

def bindsAny (e : Edge) : Bool := match e.ground with
  | .textOnly _ | .gcOnly _ => false
  | _ => true

/-- The set (by bits) of those that come ahead of an operation. -/
def bef1 (acc : List Nat) (es : List Edge) : Nat :=
  es.foldl (fun s e => if bindsAny e then s ||| 2 ^ e.on ||| (getN acc e.on).getD 0 else s) 0
def befs : List Oper → List Nat → List Nat
  | [], acc => acc
  | o :: t, acc => befs t (acc ++ [bef1 acc o.after.toList])

def feetOk (bs : List Nat) : List (Nat × Foot) → Bool
  | [] => true
  | (j, fj) :: t => (t.all fun (i, fi) => (((getN bs j).getD 0).testBit i) || fi.compat fj) && feetOk bs t

/-- Slots: of two operations of which neither must be ahead of the other neither reads nor writes what the other writes. -/
def looksL (ops : List Oper) (o : Oper) : List Tmp :=
  (o.op.operands.toList.filterMap fun | .tmp t => some t | _ => none) ++
  (match o.guard with
   | some (g, _) => ((getN ops g).bind (·.dst)).toList
   | none => [])

def pairApart (ops : List Oper) (x y : Oper) : Bool :=
  (match x.dst with
   | some d => !memN (looksL ops y) d && (match y.dst with | some e => !Nat.beq e d | none => true)
   | none => true) &&
  (match y.dst with
   | some d => !memN (looksL ops x) d
   | none => true)

def slotsOkAt (ops : List Oper) (bj : Nat) (oj : Oper) : List Oper → Nat → Bool
  | [], _ => true
  | oi :: t, i => (bj.testBit i || pairApart ops oi oj) && slotsOkAt ops bj oj t (i + 1)

def slotsOk (ops : List Oper) (bs : List Nat) : List Oper → Nat → Bool
  | [], _ => true
  | oj :: t, j => slotsOkAt ops ((getN bs j).getD 0) oj (ops.take j) 0 && slotsOk ops bs t (j + 1)

def edgesOk : List Oper → Nat → Bool
  | [], _ => true
  | o :: t, j => (o.after.toList.all fun e => !bindsAny e || Nat.blt e.on j) && edgesOk t (j + 1)

def regionOk (ops : List Oper) : Bool := edgesOk ops 0 && slotsOk ops (befs ops []) ops 0

inductive AExit where
  | normal
  | exit (id : Nat)
  | ret

def loopA (body : St → Option (AExit × St)) : Nat → St → Option (AExit × St)
  | 0, _ => none
  | n + 1, s => match body s with
    | some (.normal, s') => loopA body n s'
    | r => r

section
variable (P : Program) (glob : Nat → Option (List AV)) (call : Caller)

def execA (lf : Nat) : Code → St → Option (AExit × St)
  | .skip, s | .label _, s => some (.normal, s)
  | .region _ ops draw, s =>
    match runOps P glob call ops.toList s.nx ops.toList 0 ⟨s.slots, s.heap, s.nx + lenN ops.toList, s.n⟩ [] with
    | some (s', feet) => match draw with
      | false => some (.normal, s')
      | true => match regionOk ops.toList && feetOk (befs ops.toList []) feet with
        | true => some (.normal, s')
        | false => none
    | none => none
  | .seq a b, s => match execA lf a s with
    | some (.normal, s') => execA lf b s'
    | r => r
  | .cond c a b, s => match evA s.slots c with
    | some (.bool true) => execA lf a s
    | some (.bool false) => execA lf b s
    | _ => none
  | .block id body, s => match execA lf body s with
    | some (.exit i, s') => match Nat.beq i id with
      | true => some (.normal, s')
      | false => some (.exit i, s')
    | r => r
  | .loop body, s => loopA (execA lf body) lf s
  | .exit id, s => some (.exit id, s)
  | .ret, s => some (.ret, s)
  | _, _ => none

end

/-! ### Calls -/

mutual
def closedA : AV → Bool
  | .ptr _ _ | .rsl _ _ _ _ _ | .map _ => false
  | .fptr cs _ | .fsl _ cs | .agg cs | .tuple cs => closedAll cs
  | .func _ a b => closedAll a && closedAll b
  | .iface _ v => closedA v
  | _ => true
def closedAll : List AV → Bool
  | [] => true
  | a :: t => closedA a && closedAll t
end

def mapL (f : AV → Option AV) : List AV → Option (List AV)
  | [] => some []
  | a :: t => match f a with
    | some b => match mapL f t with
      | some u => some (b :: u)
      | none => none
    | none => none

/-- What lies in blocks from n on becomes part of the value; by fuel. -/
def freezeA (n : Nat) (h : Heap) : Nat → AV → Option AV
  | 0, _ => none
  | d + 1, v => match v with
    | .ptr id off => match Nat.blt id n with
      | true => some v
      | false => match hget h id with
        | some (.cells l) => match mapL (freezeA n h d) l with
          | some l' => some (.fptr l' off)
          | none => none
        | _ => none
    | .rsl _ id off len sz => match Nat.blt id n with
      | true => some v
      | false => match hget h id with
        | some (.cells l) => match cutElems sz len (l.drop off) with
          | some es => match mapL (freezeA n h d) es with
            | some es' => some (.fsl false es')
            | none => none
          | none => none
        | _ => none
    | .fptr cs off => match mapL (freezeA n h d) cs with
      | some cs' => some (.fptr cs' off)
      | none => none
    | .fsl f es => match mapL (freezeA n h d) es with
      | some es' => some (.fsl f es')
      | none => none
    | .agg cs => match mapL (freezeA n h d) cs with
      | some cs' => some (.agg cs')
      | none => none
    | .tuple cs => match mapL (freezeA n h d) cs with
      | some cs' => some (.tuple cs')
      | none => none
    | .func fn a b => match mapL (freezeA n h d) a, mapL (freezeA n h d) b with
      | some a', some b' => some (.func fn a' b')
      | _, _ => none
    | .iface t v => match freezeA n h d v with
      | some v' => some (.iface t v')
      | none => none
    | .map id => match Nat.blt id n with
      | true => some v
      | false => none
    | v => some v

def hbelow (n : Nat) : Heap → Heap
  | [] => []
  | (i, b) :: t => match Nat.blt i n with
    | true => (i, b) :: hbelow n t
    | false => hbelow n t

def resA (P : Program) (glob : Nat → Option (List AV)) (s : St) : List ResultVar → Option (List AV)
  | [] => some []
  | r :: t =>
    match (match r with
      | .tmp x => s.slots.get x
      | .cell a ty => match s.slots.get a with
        | some p => match loadA P ty p glob with
          | some (.val v) => some v
          | some (.read id k) => match hget s.heap id with
            | some b => match k b with
              | some (.val v) => some v
              | _ => none
            | none => none
          | _ => none
        | none => none) with
    | some v => match resA P glob s t with
      | some l => some (v :: l)
      | none => none
    | none => none

def tupA : List AV → AV
  | [v] => v
  | l => .tuple l

/-- How a function is called: its arguments and its answer closed (pure); its answer a row of its own, or a pointer to a variable of its own (fresh); in the caller's heap, what it made is let go (shared), or kept (keep). -/
inductive How where
  | pure | fresh | keep
  | look (d : Nat) | each (d : Nat) | clone
  | part (d : Nat) | cmp | known

def argsT : List AV → Nat → Tr → Tr
  | [], _, t => t
  | v :: vs, k, t => argsT vs (k + 1) (t.set 12 k v)

structure Opts where
  how : FuncId → How
  summ : FuncId → List AV → Option AV
  glob : Nat → Option (List AV)
  lf : Nat
  cx : Caller := fun _ _ _ _ _ => none

def runBody (P : Program) (O : Opts) (call : Caller) (f : FuncId) (args : List AV) (h : Heap) (nx : Nat) : Option (AV × Heap × Nat) :=
  match P.funcs[f]? with
  | some fn => match fn.body with
    | some c => match fn.name == "runtime.NumGoroutine" with
      | true => none
      | false => match Nat.ble (lenN args) fn.ntmps && Nat.ble fn.ntmps 4095 with
       | false => none
       | true => match execA P O.glob call O.lf c ⟨argsT args 0 .tip, h, nx, fn.ntmps⟩ with
        | some (.normal, s) | some (.ret, s) => match resA P O.glob s fn.results.toList with
          | some l => some (tupA l, s.heap, s.nx)
          | none => none
        | _ => none
    | none => none
  | none => none

/-- An answer out of a heap of its own becomes a value, or a new block. -/
def importA (h' : Heap) (v : AV) (id : Nat) (h : Heap) (nx : Nat) : Option (AV × Heap × Nat × Foot) :=
  match v with
  | .rsl true i 0 len sz => match hget h' i with
    | some (.cells l) => match mapL (freezeA 0 (hdel h' i) 40) l with
      | some l' => match closedAll l' with
        | true => some (.rsl true id 0 len sz, hins h id (.cells l'), nx, ⟨false, [], [id]⟩)
        | false => none
      | none => none
    | _ => none
  | .ptr i off => match hget h' i with
    | some (.cells l) => match mapL (freezeA 0 (hdel h' i) 40) l with
      | some l' => match closedAll l' with
        | true => some (.ptr id off, hins h id (.cells l'), nx, ⟨false, [], [id]⟩)
        | false => none
      | none => none
    | _ => none
  | v => match freezeA 0 h' 40 v with
    | some v' => match closedA v' with
      | true => some (v', h, nx, ⟨false, [], []⟩)
      | false => none
    | none => none

/-! ### Calls that see but a part of the heap -/

def addN (i : Nat) (acc : List Nat) : List Nat := match memN acc i with
  | true => acc
  | false => i :: acc

mutual
/-- The blocks that a value names. -/
def idsA : AV → List Nat → List Nat
  | .ptr i _, acc => addN i acc
  | .rsl _ i _ _ _, acc => addN i acc
  | .map i, acc => addN i acc
  | .fptr cs _, acc => idsAll cs acc
  | .fsl _ cs, acc => idsAll cs acc
  | .agg cs, acc => idsAll cs acc
  | .tuple cs, acc => idsAll cs acc
  | .func _ a b, acc => idsAll b (idsAll a acc)
  | .iface _ v, acc => idsA v acc
  | _, acc => acc
def idsAll : List AV → List Nat → List Nat
  | [], acc => acc
  | a :: t, acc => idsAll t (idsA a acc)
end
def idsP : List (AV × AV) → List Nat → List Nat
  | [], acc => acc
  | (a, b) :: t, acc => idsP t (idsA b (idsA a acc))
def idsB : Blk → List Nat → List Nat
  | .cells l, acc => idsAll l acc
  | .siter _ _, acc => acc
  | .mapb _ _ es, acc => idsP es acc
  | .miter m _ _ _, acc => addN m acc
def idsH (h : Heap) : List Nat → List Nat → List Nat
  | [], acc => acc
  | i :: t, acc => match hget h i with
    | some b => idsH h t (idsB b acc)
    | none => idsH h t acc
/-- What is seen: the blocks that are named, those that these name, and so on. -/
def lookSet (h : Heap) : Nat → List Nat → List Nat
  | 0, l => l
  | d + 1, l => lookSet h d (idsH h l l)

def cutH (h : Heap) : List Nat → Heap
  | [] => []
  | i :: t => hset (cutH h t) i (hget h i)

mutual
/-- Does a value name but blocks below a number? -/
def lowA (n : Nat) : AV → Bool
  | .ptr i _ => Nat.blt i n
  | .rsl _ i _ _ _ => Nat.blt i n
  | .map i => Nat.blt i n
  | .fptr cs _ => lowAll n cs
  | .fsl _ cs => lowAll n cs
  | .agg cs => lowAll n cs
  | .tuple cs => lowAll n cs
  | .func _ a b => lowAll n a && lowAll n b
  | .iface _ v => lowA n v
  | _ => true
def lowAll (n : Nat) : List AV → Bool
  | [] => true
  | a :: t => lowA n a && lowAll n t
end
def lowP (n : Nat) : List (AV × AV) → Bool
  | [] => true
  | (a, b) :: t => lowA n a && (lowA n b && lowP n t)
def lowB (n : Nat) : Blk → Bool
  | .cells l => lowAll n l
  | .siter _ _ => true
  | .mapb _ _ es => lowP n es
  | .miter m _ _ _ => Nat.blt m n

mutual
/-- Are two values the same, as written? -/
def sameA : AV → AV → Bool
  | .bool a, .bool b => (a && b) || (!a && !b)
  | .int k a, .int k' b => decide (k = k') && beqInt a b
  | .str a, .str b => beqBytes a b
  | .ptr i o, .ptr j p => Nat.beq i j && Nat.beq o p
  | .nilp, .nilp => true
  | .fptr a o, .fptr b p => Nat.beq o p && sameL a b
  | .fsl f a, .fsl g b => ((f && g) || (!f && !g)) && sameL a b
  | .rsl f i o l z, .rsl g j p m y => ((f && g) || (!f && !g)) && (Nat.beq i j && (Nat.beq o p && (Nat.beq l m && Nat.beq z y)))
  | .nilsl, .nilsl => true
  | .map i, .map j => Nat.beq i j
  | .nilmap, .nilmap => true
  | .func (.func f) a b, .func (.func g) c d => Nat.beq f g && (sameL a c && sameL b d)
  | .nilFunc, .nilFunc => true
  | .iface t v, .iface u w => Nat.beq t u && sameA v w
  | .nilIface, .nilIface => true
  | .agg a, .agg b => sameL a b
  | .tuple a, .tuple b => sameL a b
  | _, _ => false
def sameL : List AV → List AV → Bool
  | [], [] => true
  | a :: t, b :: u => sameA a b && sameL t u
  | _, _ => false
end
def sameP : List (AV × AV) → List (AV × AV) → Bool
  | [], [] => true
  | (a, b) :: t, (c, d) :: u => sameA a c && (sameA b d && sameP t u)
  | _, _ => false
def sameN : List Nat → List Nat → Bool
  | [], [] => true
  | a :: t, b :: u => Nat.beq a b && sameN t u
  | _, _ => false
def sameB : Blk → Blk → Bool
  | .cells a, .cells b => sameL a b
  | .mapb c s a, .mapb d t b => Nat.beq c d && (sameN s t && sameP a b)
  | _, _ => false

def mapP (f : AV → Option AV) : List (AV × AV) → Option (List (AV × AV))
  | [] => some []
  | (a, b) :: t => match f a with
    | some a' => match f b with
      | some b' => match mapP f t with
        | some u => some ((a', b') :: u)
        | none => none
      | none => none
    | none => none
def freezeB (n : Nat) (h : Heap) : Blk → Option Blk
  | .cells l => match mapL (freezeA n h 40) l with
    | some l' => some (.cells l')
    | none => none
  | .mapb cl st es => match mapP (freezeA n h 40) es with
    | some es' => some (.mapb cl st es')
    | none => none
  | b => some b

abbrev Mods := List (Nat × Option Blk)
def Mods.app : Mods → Heap → Heap
  | [], h => h
  | (k, b) :: t, h => Mods.app t (hset h k b)
def Mods.keys : Mods → List Nat
  | [] => []
  | (k, _) :: t => k :: Mods.keys t

/-- What has been turned of the blocks that were seen, what was made become part of it. -/
def lookMods (n : Nat) (h1 h : Heap) : List Nat → Option Mods
  | [] => some []
  | i :: t => match Nat.blt i n with
   | false => none
   | true => match lookMods n h1 h t with
    | some m => match hget h1 i, hget h i with
      | none, none => some m
      | none, some _ => some ((i, none) :: m)
      | some b, o => match freezeB n h1 b with
        | some b' => match lowB n b' with
          | true => match (match o with
              | some c => sameB c b'
              | none => false) with
            | true => some m
            | false => some ((i, some b') :: m)
          | false => none
        | none => none
    | none => none

/-- The answer; the row that it is; what has been turned. -/
def lookEnd (L : List Nat) (id nx : Nat) (h : Heap) (v : AV) (h1 : Heap) : Option (AV × Option (List AV) × Mods) :=
  match v with
  | .rsl true i 0 len sz => match Nat.blt i nx with
    | true => lookPlain v
    | false => match hget h1 i with
      | some (.cells l) => match mapL (freezeA nx (hdel h1 i) 40) l with
        | some l' => match lowAll nx l', lookMods nx (hdel h1 i) h L with
          | true, some m => some (.rsl true id 0 len sz, some l', m)
          | _, _ => none
        | none => none
      | _ => none
  | v => lookPlain v
 where
  lookPlain (v : AV) : Option (AV × Option (List AV) × Mods) := match freezeA nx h1 40 v with
    | some v' => match lowA nx v', lookMods nx h1 h L with
      | true, some m => some (v', none, m)
      | _, _ => none
    | none => none

def lookFin (L : List Nat) (id nx : Nat) (h : Heap) (r : AV × Option (List AV) × Mods) : AV × Heap × Nat × Foot :=
  (r.1, (match r.2.1 with
    | none => Mods.app r.2.2 h
    | some l => hins (Mods.app r.2.2 h) id (.cells l)), nx, ⟨false, nx :: L, id :: r.2.2.keys⟩)

def callLook (P : Program) (O : Opts) (call : Caller) (d : Nat) (f : FuncId) (args : List AV) (id : Nat) (h : Heap) (nx : Nat) : Option (AV × Heap × Nat × Foot) :=
  match runBody P O call f args (cutH h (lookSet h d (idsAll args []))) nx with
  | some (v, h1, _) => match lookEnd (lookSet h d (idsAll args [])) id nx h v h1 with
    | some r => some (lookFin (lookSet h d (idsAll args [])) id nx h r)
    | none => none
  | none => none

/-! ### Whatever order a map is walked in -/

section
variable (P : Program) (glob : Nat → Option (List AV)) (call : Caller)

def catO (k : AExit × St → Option (List (AExit × St))) : List (AExit × St) → Option (List (AExit × St))
  | [] => some []
  | a :: t => match k a with
    | some l => match catO k t with
      | some u => some (l ++ u)
      | none => none
    | none => none

def loopNd (body : St → Option (List (AExit × St))) : Nat → St → Option (List (AExit × St))
  | 0, _ => none
  | n + 1, s => match body s with
    | some l => catO (fun p => match p with
      | (.normal, s') => loopNd body n s'
      | r => some [r]) l
    | none => none

/-- The region's first operation told so, the others in their order. -/
def afterNext (ops : List Oper) (rest : List Oper) (dst : Option Tmp) (it : Nat) (s : St) : List (AV × Blk) → Option (List (AExit × St))
  | [] => some []
  | (v, b) :: t => match runOps P glob call ops (s.nx - lenN ops) rest 1 ⟨putA s.n s.slots dst v, hins s.heap it b, s.nx, s.n⟩ [] with
    | some (s', _) => match afterNext ops rest dst it s t with
      | some l => some ((.normal, s') :: l)
      | none => none
    | none => none

def execNd (lf : Nat) : Code → St → Option (List (AExit × St))
  | .seq a b, s => match execNd lf a s with
    | some l => catO (fun p => match p with
      | (.normal, s') => execNd lf b s'
      | r => some [r]) l
    | none => none
  | .cond c a b, s => match evA s.slots c with
    | some (.bool true) => execNd lf a s
    | some (.bool false) => execNd lf b s
    | _ => none
  | .block id body, s => match execNd lf body s with
    | some l => catO (fun p => match p with
      | (.exit i, s') => match Nat.beq i id with
        | true => some [(.normal, s')]
        | false => some [(.exit i, s')]
      | r => some [r]) l
    | none => none
  | .loop body, s => loopNd (execNd lf body) lf s
  | .region rid ops draw, s => match ops.toList, draw with
    | o :: rest, false => match o.op, o.guard with
      | .next x false, none => match evA s.slots x with
        | some (.ptr it 0) => match hget s.heap it with
          | some (.miter m since seen last) => match hget s.heap m with
            | some mp => match nextL (.miter m since seen last) mp with
              | some (p :: q :: t) => afterNext P glob call (o :: rest) rest o.dst it ⟨s.slots, s.heap, s.nx + lenN (o :: rest), s.n⟩ (p :: q :: t)
              | _ => (execA P glob call lf (.region rid ops false) s).map fun r => [r]
            | none => none
          | _ => none
        | _ => none
      | _, _ => (execA P glob call lf (.region rid ops false) s).map fun r => [r]
    | _, draw => (execA P glob call lf (.region rid ops draw) s).map fun r => [r]
  | c, s => (execA P glob call lf c s).map fun r => [r]

end

/-- All ends lead to one answer. -/
def oneEnd (P : Program) (G : Nat → Option (List AV)) (rs : List ResultVar) (L : List Nat) (id nx : Nat) (h : Heap) : List (AExit × St) → Option (AV × Option (List AV) × Mods)
  | [] => none
  | (e, s) :: t => match (match e with
      | .exit _ => none
      | _ => match resA P G s rs with
        | some l => lookEnd L id nx h (tupA l) s.heap
        | none => none) with
    | some (v, row, []) => match t with
      | [] => some (v, row, [])
      | _ :: _ => match oneEnd P G rs L id nx h t with
        | some (v', row', []) => match sameA v v' && (match row, row' with
            | none, none => true
            | some a, some b => sameL a b
            | _, _ => false) with
          | true => some (v, row, [])
          | false => none
        | _ => none
    | _ => none

def callEach (P : Program) (O : Opts) (call : Caller) (d : Nat) (f : FuncId) (args : List AV) (id : Nat) (h : Heap) (nx : Nat) : Option (AV × Heap × Nat × Foot) :=
  match P.funcs[f]? with
  | some fn => match fn.body with
    | some c => match fn.name == "runtime.NumGoroutine" with
      | true => none
      | false => match Nat.ble (lenN args) fn.ntmps && Nat.ble fn.ntmps 4095 with
       | false => none
       | true => match execNd P O.glob call O.lf c ⟨argsT args 0 .tip, cutH h (lookSet h d (idsAll args [])), nx, fn.ntmps⟩ with
        | some l => match oneEnd P O.glob fn.results.toList (lookSet h d (idsAll args [])) id nx h l with
          | some r => some (lookFin (lookSet h d (idsAll args [])) id nx h r)
          | none => none
        | none => none
    | none => none
  | none => none

/-- What stands for maps.clone. -/
def callClone (P : Program) (f : FuncId) (args : List AV) (id : Nat) (h : Heap) (nx : Nat) : Option (AV × Heap × Nat × Foot) :=
  match P.funcs[f]? with
  | some fn => match fn.body.isNone && (fn.name == "maps.clone" && fn.origin == "") with
    | true => match args with
      | [.iface t (.map m)] => match hget h m with
        | some (.mapb cl st es) => some (.iface t (.map id), hins h id (.mapb cl st es), nx, ⟨false, [m], [id]⟩)
        | _ => none
      | _ => none
    | false => none
  | none => none

def newM (nx : Nat) (h1 : Heap) : Heap → Mods
  | [] => []
  | (k, _) :: t => match Nat.blt k nx with
    | true => newM nx h1 t
    | false => (k, hget h1 k) :: newM nx h1 t
def oldM (h1 : Heap) : List Nat → Mods
  | [] => []
  | i :: t => (i, hget h1 i) :: oldM h1 t
def catM : Mods → Mods → Mods
  | [], m => m
  | p :: t, m => p :: catM t m
/-- A call that sees but a part of the heap; what it makes is kept. -/
def callPart (P : Program) (O : Opts) (call : Caller) (d : Nat) (f : FuncId) (args : List AV) (h : Heap) (nx : Nat) : Option (AV × Heap × Nat × Foot) :=
  match runBody P O call f args (cutH h (lookSet h d (idsAll args []))) nx with
  | some (v, h1, nx') => match Nat.ble nx nx' with
   | false => none
   | true => some (v, Mods.app (catM (oldM h1 (lookSet h d (idsAll args []))) (newM nx h1 h1)) h, nx', ⟨true, lookSet h d (idsAll args []), nx :: lookSet h d (idsAll args [])⟩)
  | none => none

/-- What stands for the comparison of two strings. -/
def callCmp (P : Program) (f : FuncId) (args : List AV) (h : Heap) (nx : Nat) : Option (AV × Heap × Nat × Foot) :=
  match P.funcs[f]? with
  | some fn => match fn.body.isNone && (fn.name == "internal/bytealg.abigen_runtime_cmpstring" && fn.origin == "") with
    | true => match args with
      | [.str a, .str b] => some (.int .i64 (match ltBytes a b with
        | true => -1
        | false => match ltBytes b a with
          | true => 1
          | false => 0), h, nx, ⟨false, [], []⟩)
      | _ => none
    | false => none
  | none => none

def callN (P : Program) (O : Opts) : Nat → Caller
  | 0, _, _, _, _, _ => none
  | n + 1, f, args, id, h, nx =>
    match O.how f, closedAll args with
    | .look d, _ => callLook P O (callN P O n) d f args id h nx
    | .each d, _ => callEach P O (callN P O n) d f args id h nx
    | .clone, _ => callClone P f args id h nx
    | .part d, _ => callPart P O (callN P O n) d f args h nx
    | .cmp, _ => callCmp P f args h nx
    | .known, _ => O.cx f args id h nx
    | .pure, true => match O.summ f args with
      | some v => some (v, h, nx, ⟨false, [], []⟩)
      | none => match runBody P O (callN P O n) f args [] 0 with
        | some (v, h', _) => match freezeA 0 h' 40 v with
          | some v' => match closedA v' with
            | true => some (v', h, nx, ⟨false, [], []⟩)
            | false => none
          | none => none
        | none => none
    | .fresh, true => match runBody P O (callN P O n) f args [] 0 with
      | some (v, h', _) => importA h' v id h nx
      | none => none
    | .pure, false => match runBody P O (callN P O n) f args h nx with
      | some (v, h', nx') => match freezeA nx h' 40 v with
        | some v' => some (v', hbelow nx h', nx', ⟨true, [], []⟩)
        | none => none
      | none => none
    | _, _ => match runBody P O (callN P O n) f args h nx with
      | some (v, h', nx') => some (v, h', nx', ⟨true, [], []⟩)
      | none => none

end
end Go.Proofs.Abs
