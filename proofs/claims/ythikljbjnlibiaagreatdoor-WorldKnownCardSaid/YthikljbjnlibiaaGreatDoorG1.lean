import Derived.Calls
import Derived.Orders
import Derived.Laws.AppendOwn
import Derived.Laws.CopyOwn
import Derived.WalkKit
import Derived.ChangeKeysEq
import Derived.Laws.StructEq
import Derived.Laws.Tables
namespace Go.Proofs.Abs
open Go
noncomputable section
inductive AV where
 |bool (b:Bool)
 |int (k:IntKind) (n:Int)
 |str (s:List UInt8)
 |ptr (id off:Nat)
 |nilp
 |fptr (cells:List AV) (off:Nat)
 |gptr (g off:Nat)
 |fsl (full:Bool) (es:List AV)
 |rsl (own:Bool) (id off len sz:Nat)
 |nilsl
 |nesl
 |map (id:Nat)
 |nilmap
 |func (fn:Fn) (first captured:List AV)
 |nilFunc
 |iface (t:TypeId) (v:AV)
 |nilIface
 |agg (cells:List AV)
 |tuple (vs:List AV)
 deriving Inhabited
def bN:AV:= .tuple []
def AV.cells:AV→List AV
 | .agg cs=>cs
 |v=>[v]
def AV.one:AV→Bool
 | .agg _| .tuple _=>false
 |_=>true
inductive Blk where
 |cells (l:List AV)
 |siter (s:List UInt8) (pos:Nat)
 |mapb (cl:Nat) (st:List Nat) (es:List (AV × AV))
 |miter (m since:Nat) (seen:List Nat) (last:Nat)
 deriving Inhabited
abbrev aa:=List (Nat × Option Blk)
def hget:aa→Nat→Option Blk
 |[],_=>none
 |(i,b)::t,id=>match Nat.beq i id with
  |true=>b
  |false=>hget t id
def aM:aa→Nat→Option Blk→aa
 |[],id,b=>[(id,b)]
 | (i,c)::t,id,b=>
  match Nat.beq i id with
  |true=>(id,b)::t
  |false=>match Nat.blt i id with
   |true=>(id,b)::(i,c)::t
   |false=>(i,c)::aM t id b
def an (H:aa) (id:Nat) (b:Blk):aa:=aM H id (some b)
def ao (H:aa) (id:Nat):aa:=aM H id none
inductive Eff where
 |val (v:AV)
 |skip
 |read (id:Nat) (k:Blk→Option Eff)
 |upd (id:Nat) (k:Blk→Option (Blk × AV))
 |new (b:Blk) (k:Nat→AV)
 |repl (id:Nat) (k:Blk→Option (Blk × (Nat→AV)))
 |shut (id:Nat) (k:Blk→Option AV)
 |call (f:FuncId) (args:List AV)
def aT {α:Type}:List α→Nat→Option α
 |[],_=>none
 |a::_,0=>some a
 |_::t,n+1=>aT t n
def fY {α:Type}:List α→Nat→α→List α
 |[],_,_=>[]
 |_::t,0,x=>x::t
 |a::t,n+1,x=>a::fY t n x
inductive Tr where
 |tip
 |node (v:Option AV) (l r:Tr)
 deriving Inhabited
-- BEGIN TREE
noncomputable def Tr.get (t:Tr):Nat→Option AV:=
 Tr.rec (fun _=>none) (fun v _ _ gl gr k=>
  Bool.rec (Bool.rec (gr (k/2-1)) (gl (k/2)) (Nat.beq (k%2) 1)) v (Nat.beq k 0)) t
noncomputable def Tr.set (d:Nat):Tr→Nat→AV→Tr:=
 Nat.rec (fun t _ _=>t) (fun _ ih t k x=>
  Tr.rec
   (Bool.rec (Bool.rec (.node none .tip (ih .tip (k/2-1) x)) (.node none (ih .tip (k/2) x) .tip) (Nat.beq (k%2) 1)) (.node (some x) .tip .tip) (Nat.beq k 0))
   (fun v l r _ _=>Bool.rec (Bool.rec (.node v l (ih r (k/2-1) x)) (.node v (ih l (k/2) x) r) (Nat.beq (k%2) 1)) (.node (some x) l r) (Nat.beq k 0)) t) d
-- END TREE
def ab {α:Type}:List α→Nat
 |[]=>0
 |_::t=>ab t+1
def splice:List AV→Nat→List AV→Option (List AV)
 |l,_,[]=>some l
 |[],_,_::_=>none
 |_::t,0,v::vs=>(splice t 0 vs).map (v:: ·)
 |a::t,n+1,vs=>(splice t n vs).map (a:: ·)
def chunk:List AV→Nat→Nat→Option (List AV)
 |_,_,0=>some []
 |[],_,_+1=>none
 |a::t,0,n+1=>(chunk t 0 n).map (a:: ·)
 |_::t,o+1,n+1=>chunk t o (n+1)
def ig:Value→Option AV
 | .bool b=>some (.bool b)
 | .int k n=>some (.int k n)
 | .string s=>some (.str s.data.toList)
 | .pointer none=>some .nilp
 | .slice none 0 0=>some .nilsl
 | .map none=>some .nilmap
 | .nilFunc=>some .nilFunc
 | .nilIface=>some .nilIface
 |_=>none
def fZ:List Value→Option (List AV)
 |[]=>some []
 | v::vs=>match ig v with
  |some a=>match fZ vs with
   |some l=>some (a::l)
   |none=>none
  |none=>none
def ofValue:Value→Option AV
 | .agg cs=>match fZ cs.toList with
  |some l=>some (.agg l)
  |none=>none
 | .tuple vs=>match vs.toList with
  |[]=>some (.tuple [])
  |_=>none
 |v=>ig v
def al (k:IntKind) (n:Int):Int:=
 match k,n with
 | .i64,.ofNat m=>match Nat.ble m 9223372036854775807 with
  |true=> .ofNat m
  |false=>k.wrap n
 | .i64,.negSucc m=>match Nat.ble m 9223372036854775807 with
  |true=> .negSucc m
  |false=>k.wrap n
 | .u8,.ofNat m=>match Nat.ble m 255 with
  |true=> .ofNat m
  |false=>k.wrap n
 | .u32,.ofNat m=>match Nat.ble m 4294967295 with
  |true=> .ofNat m
  |false=>k.wrap n
 | .u64,.ofNat m=>match Nat.ble m 18446744073709551615 with
  |true=> .ofNat m
  |false=>k.wrap n
 |k,n=>k.wrap n
def cy:List UInt8→List UInt8→Bool
 |[],[]=>true
 |a::x,b::y=>match Nat.beq a.toNat b.toNat with
  |true=>cy x y
  |false=>false
 |_,_=>false
def cb:List UInt8→List UInt8→Bool
 |_,[]=>false
 |[],_::_=>true
 | a::x,b::y=>match Nat.blt a.toNat b.toNat with
  |true=>true
  |false=>match Nat.beq a.toNat b.toNat with
   |true=>cb x y
   |false=>false
def bK:Int→Int→Bool
 | .ofNat a,.ofNat b=>Nat.beq a b
 | .negSucc a,.negSucc b=>Nat.beq a b
 |_,_=>false
def aV:Int→Int→Bool
 | .ofNat a,.ofNat b=>Nat.blt a b
 | .negSucc a,.negSucc b=>Nat.blt b a
 | .negSucc _,.ofNat _=>true
 | .ofNat _,.negSucc _=>false
section
variable (P:Program)
def aE (t:TypeId):Option Nat:=(P.info? t).map (·.size)
def eZ (t:TypeId):Option Bool:=(P.underlying t).map fun
 | .struct _| .array _ _=>true
 |_=>false
def bt (t:TypeId):Option AV:=do ofValue (←(←P.info? t).zero)
def a5 (t:TypeId) (cs:List AV) (off:Nat):Option AV:=
 match eZ P t with
 |some true=>match aE P t with
  |some n=>(chunk cs off n).map .agg
  |none=>none
 |some false=>aT cs off
 |none=>none
def aR:List AV→Bool
 |[]=>true
 |a::t=>a.one&&aR t
def bS (t:TypeId) (a:AV) (glob:Nat→Option (List AV)):Option Eff:=
 match a with
 | .ptr id off=>some<| .read id fun
  | .cells l=>(a5 P t l off).map .val
  |_=>none
 | .fptr cs off=>(a5 P t cs off).map .val
 | .gptr g off=>match glob g with
  |some l=>(a5 P t l off).map .val
  |none=>none
 |_=>none
def d7 (t:TypeId) (a v:AV):Option Eff:=
 match a with
 | .ptr id off=>match aE P t with
  | some n=>if Nat.beq (ab v.cells) n&&aR v.cells then
    some<| .upd id fun
     | .cells l=>(splice l off v.cells).map fun l'=>(.cells l',bN)
     |_=>none
   else none
  |none=>none
 |_=>none
def f4:AV→Option AV
 | .ptr i o=>some (.ptr i o)
 | .fptr c o=>some (.fptr c o)
 | .gptr g o=>some (.gptr g o)
 | .iface t v=>some (.iface t v)
 | .func (.func f) a b=>some (.func (.func f) a b)
 |_=>none
def dj (eq:TypeId→AV→AV→Option Bool):List Field→List AV→List AV→Option Bool
 |[],_,_=>some true
 | f::fs,xs,ys=>
  match f.name== "_" with
  |true=>dj eq fs xs ys
  | false=>match a5 P f.type xs f.offset,a5 P f.type ys f.offset with
   |some a,some b=>match eq f.type a b with
    |some true=>dj eq fs xs ys
    |some false=>some false
    |none=>none
   |_,_=>none
def dE (eq:TypeId→AV→AV→Option Bool) (e:TypeId) (sz:Nat) (xs ys:List AV):List Nat→Option Bool
 |[]=>some true
 | i::is=>match a5 P e xs (i*sz),a5 P e ys (i*sz) with
  |some a,some b=>match eq e a b with
   |some true=>dE eq e sz xs ys is
   |some false=>some false
   |none=>none
  |_,_=>none
def bn:Nat→TypeId→AV→AV→Option Bool
 |0,_,_,_=>none
 | d+1,t,x,y=>
  match P.underlying t,x,y with
  |some .bool,.bool a,.bool b=>some (a==b)
  |some (.int _),.int k a,.int k' b=>if k=k' then some (bK a b) else none
  |some .string,.str a,.str b=>some (cy a b)
  |some (.struct fs),.agg xs,.agg ys=>if P.stoodInHeld t then none else dj P (bn d) fs.toList xs ys
  |some (.pointer _),.nilp,.nilp=>some true
  |some (.pointer _),.nilp,.ptr _ _=>some false
  |some (.pointer _),.ptr _ _,.nilp=>some false
  |some (.pointer _),.nilp,.fptr _ _=>some false
  |some (.pointer _),.fptr _ _,.nilp=>some false
  |some (.func _ _ _),.nilFunc,.nilFunc=>some true
  |some (.func _ _ _),.func _ _ _,.nilFunc=>some false
  |some (.func _ _ _),.nilFunc,.func _ _ _=>some false
  |some (.slice _),.nilsl,.nilsl=>some true
  |some (.slice _),.rsl _ _ _ _ _,.nilsl=>some false
  |some (.slice _),.nesl,.nilsl=>some false
  |some (.slice _),.fsl _ (_::_),.nilsl=>some false
  |some (.map _ _),.nilmap,.nilmap=>some true
  |some (.map _ _),.map _,.nilmap=>some false
  |some (.interface _),.nilIface,.nilIface=>some true
  |some (.interface _),.iface _ _,.nilIface=>some false
  |some (.interface _),.nilIface,.iface _ _=>some false
  |some (.array n e),.agg xs,.agg ys=>match aE P e with
   |some sz=>dE P (bn d) e sz xs ys (List.range n)
   |none=>none
  |_,_,_=>none
def e6:Operand→Bool
 | .const .nilIface=>true
 |_=>false
def a6 (op:BinOp) (t:TypeId) (xo yo:Operand) (x y:AV):Option AV:=
 match op,x,y with
 | .shl,.int k a,.int _ b=>if aV b 0 then none else some (.int k (al k (a*2^min b.toNat k.bits)))
 | .shr,.int k a,.int _ b=>if aV b 0 then none else some (.int k (a.fdiv (2^min b.toNat k.bits)))
 |op,.int k a,.int k' b=>
  if k≠k' then none else
  match op with
  | .add=>some (.int k (al k (a+b)))
  | .sub=>some (.int k (al k (a-b)))
  | .mul=>some (.int k (al k (a*b)))
  | .quo=>if bK b 0 then none else some (.int k (al k (a.tdiv b)))
  | .rem=>if bK b 0 then none else some (.int k (a.tmod b))
  | .and=>some (.int k (al k (BitVec.ofInt k.bits a&&&BitVec.ofInt k.bits b).toNat))
  | .or=>some (.int k (al k (BitVec.ofInt k.bits a|||BitVec.ofInt k.bits b).toNat))
  | .xor=>some (.int k (al k (BitVec.ofInt k.bits a^^^BitVec.ofInt k.bits b).toNat))
  | .andNot=>some (.int k (al k (BitVec.ofInt k.bits a&&& ~~~ BitVec.ofInt k.bits b).toNat))
  | .eql=>some (.bool (bK a b))
  | .neq=>some (.bool (!bK a b))
  | .lss=>some (.bool (aV a b))
  | .leq=>some (.bool (!aV b a))
  | .gtr=>some (.bool (aV b a))
  | .geq=>some (.bool (!aV a b))
  |_=>none
 |op,.str a,.str b=>
  match op with
  | .add=>if Nat.ble (ab a+ab b) 9223372036854775807 then some (.str (a++b)) else none
  | .eql=>some (.bool (cy a b))
  | .neq=>some (.bool (!cy a b))
  | .lss=>some (.bool (cb a b))
  | .leq=>some (.bool (cb a b||cy a b))
  | .gtr=>some (.bool (!(cb a b||cy a b)))
  | .geq=>some (.bool (!cb a b))
  |_=>none
 | .eql,.agg a,.agg b=>if P.eqGuardType P.depth t then none else (bn P 16 t (.agg a) (.agg b)).map .bool
 | .neq,.agg a,.agg b=>if P.eqGuardType P.depth t then none else (bn P 16 t (.agg a) (.agg b)).map (.bool !·)
 | .eql,.nilIface,.nilIface=>if e6 xo||e6 yo then (bn P 16 t x y).map .bool else none
 | .neq,.nilIface,.nilIface=>if e6 xo||e6 yo then (bn P 16 t x y).map (.bool !·) else none
 | .eql,x,y=>(bn P 16 t x y).map .bool
 | .neq,x,y=>(bn P 16 t x y).map (.bool !·)
 |_,_,_=>none
def jC (op:UnOp) (x:AV):Option AV:=
 match op,x with
 | .neg,.int k n=>some (.int k (al k (0-n)))
 | .xor,.int k n=>some (.int k (al k (BitVec.ofInt k.bits (if k.signed then-1 else k.max)^^^BitVec.ofInt k.bits n).toNat))
 | .not,.bool b=>some (.bool !b)
 |_,_=>none
def bO:List AV→Option (List UInt8)
 |[]=>some []
 | .int .u8 n::t=>(bO t).map (UInt8.ofNat n.toNat:: ·)
 |_=>none
def aw:List UInt8→List AV
 |[]=>[]
 |b::t=> .int .u8 (.ofNat b.toNat)::aw t
def d8:Option (List UInt8)→Option Eff
 |some s=>some (.val (.str s))
 |none=>none
def e7 (e:TypeId):Bool:=match P.underlying e with
 |some (.int .u8)=>true
 |_=>false
def jD (x:AV):Option Eff:=
 match x with
 | .fsl _ es=>d8 (bO es)
 | .nilsl=>some (.val (.str []))
 | .rsl _ id off len _=>some<| .read id fun
  | .cells l=>match chunk l off len with
   |some cs=>d8 (bO cs)
   |none=>none
  |_=>none
 |_=>none
def m4 (x:AV):Option Eff:=
 match x with
 | .rsl true id 0 len 1=>some<| .shut id fun
  | .cells l=>match chunk l 0 len with
   |some cs=>match aR cs with
    |true=>some (.fsl false cs)
    |false=>none
   |none=>none
  |_=>none
 |_=>none
def cZ (src dst:TypeId) (x:AV):Option Eff:=
 match P.underlying src,P.underlying dst,x with
 |some _,some (.int k),.int _ n=>some (.val (.int k (al k n)))
 |some _,some .string,.str s=>some (.val (.str s))
 |some _,some (.slice e),.str s=>match e7 P e with
  |true=>some (.val (.fsl false (aw s)))
  |false=>none
 |some (.slice _),some (.slice e),x=>match decide (src=dst)&&e7 P e with
  |true=>m4 x
  |false=>none
 |some (.slice e),some .string,x=>match e7 P e with
  |true=>jD x
  |false=>none
 |_,_,_=>none
def bh (t:TypeId):Option TypeId:=match P.underlying t with
 |some (.slice e)=>some e
 |_=>none
def ck:AV→Option Nat
 | .int _ (.ofNat n)=>some n
 |_=>none
def flat:List AV→List AV
 |[]=>[]
 |e::t=>e.cells++flat t
def a7 (z:AV):Nat→List AV
 |0=>[]
 |n+1=>z::a7 z n
def f5 (t:TypeId) (l c:AV):Option Eff:=
 match bh P t,ck l,ck c with
 | some e,some l,some c=>match P.info? e,bt P e with
  |some i,some z=>
   match Nat.ble l c&&Nat.ble (i.bytes*c) 281474976710656&&Nat.ble c 9223372036854775807&&Nat.beq (ab z.cells) i.size&&Nat.blt 0 i.size with
   |true=>some (.new (.cells (flat (a7 z c))) fun id=> .rsl true id 0 l i.size)
   |false=>none
  |_,_=>none
 |_,_,_=>none
def cI:Option AV→Option (Option Nat)
 |none=>some none
 |some v=>(ck v).map some
def jE (es:List AV) (l h:Nat):Option (List AV):=chunk es l (h-l)
def ii (sz:Nat):List AV→Bool
 |[]=>true
 |e::_=>Nat.beq (ab e.cells) sz
def jF (t:TypeId) (s:List UInt8) (lo hi mx:Option Nat):Option Eff:=
 match P.underlying t with
 |some .string=>
  match mx.isNone&&Nat.ble (lo.getD 0) (hi.getD (ab s))&&Nat.ble (hi.getD (ab s)) (ab s) with
  |true=>some (.val (.str ((s.drop (lo.getD 0)).take (hi.getD (ab s)-lo.getD 0))))
  |false=>none
 |_=>none
def f6 (full:Bool) (mx:Option Nat) (h n:Nat):Bool:=match mx with
 |some m=>Nat.beq m h
 |none=>full&&Nat.beq h n
def f7 (own:Bool) (id off l h sz:Nat):AV:=match Nat.beq l 0 with
 |true=> .rsl own id off h sz
 |false=>match Nat.beq l h with
  |true=> .fsl false []
  |false=> .rsl own id (off+l*sz) (h-l) sz
def jG (t:TypeId) (full:Bool) (es:List AV) (lo hi mx:Option Nat):Option Eff:=
 match bh P t with
 | some e=>match aE P e with
  | some sz=>
   match ii sz es&&Nat.ble (lo.getD 0) (hi.getD (ab es))&&Nat.ble (hi.getD (ab es)) (ab es)&&
     (match mx with|some m=>Nat.ble (hi.getD (ab es)) m&&Nat.ble m (ab es)&&hi.isSome|none=>true) with
   |true=>match jE es (lo.getD 0) (hi.getD (ab es)) with
    |some es'=>some (.val (.fsl (f6 full mx (hi.getD (ab es)) (ab es)) es'))
    |none=>none
   |false=>none
  |none=>none
 |none=>none
def jH (t:TypeId) (own:Bool) (id off len sz':Nat) (lo hi mx:Option Nat):Option Eff:=
 match bh P t with
 | some e=>match aE P e with
  | some sz=>
   match Nat.beq sz sz'&&Nat.ble (lo.getD 0) (hi.getD len)&&(match mx with|some m=>Nat.ble (hi.getD len) m&&Nat.ble m len&&hi.isSome|none=>true) with
   | true=>
    match Nat.ble (hi.getD len) len with
    |true=>some (.val (f7 (own&&mx.isNone) id off (lo.getD 0) (hi.getD len) sz))
    | false=>match own&&Nat.blt 0 sz with
     | true=>some<| .read id fun
      | .cells c=>match Nat.ble (off+hi.getD len*sz) (ab c) with
       |true=>some (.val (f7 (own&&mx.isNone) id off (lo.getD 0) (hi.getD len) sz))
       |false=>none
      |_=>none
     |false=>none
   |false=>none
  |none=>none
 |none=>none
def m5 (t:TypeId) (id off:Nat) (lo hi mx:Option Nat):Option Eff:=
 match P.underlying t with
 | some (.array n e)=>match aE P e with
  | some sz=>
   match mx.isNone&&Nat.ble (lo.getD 0) (hi.getD n)&&Nat.ble (hi.getD n) n with
   |true=>match Nat.beq (lo.getD 0) (hi.getD n) with
    |true=>some (.val (.fsl false []))
    |false=>some (.val (.rsl false id (off+lo.getD 0*sz) (hi.getD n-lo.getD 0) sz))
   |false=>none
  |none=>none
 |_=>none
def m6 (t:TypeId) (lo hi mx:Option Nat):Option Eff:=
 match bh P t with
 | some e=>match aE P e with
  |some _=>match Nat.beq (lo.getD 0) 0&&Nat.beq (hi.getD 0) 0&&Nat.beq (mx.getD 0) 0&&(mx.isNone||hi.isSome) with
   |true=>some (.val .nilsl)
   |false=>none
  |none=>none
 |none=>none
def c6 (t:TypeId) (x:AV) (lo hi mx:Option AV):Option Eff:=
 match cI lo,cI hi,cI mx with
 |some lo,some hi,some mx=>match x with
  | .str s=>jF P t s lo hi mx
  | .fsl full es=>jG P t full es lo hi mx
  | .nilsl=>m6 P t lo hi mx
  | .rsl own id off len sz'=>jH P t own id off len sz' lo hi mx
  | .ptr id off=>m5 P t id off lo hi mx
  |_=>none
 |_,_,_=>none
def d9 (t:TypeId) (f:Nat):Option Field:=match P.underlying t with
 |some (.struct fs)=>fs[f]?
 |_=>none
def f9 (t:TypeId) (x:AV) (f:Nat):Option AV:=
 match d9 P t f with
 | some fd=>match aE P fd.type with
  |some (_+1)=>match x with
   | .ptr id off=>some (.ptr id (off+fd.offset))
   | .fptr cs off=>some (.fptr cs (off+fd.offset))
   | .gptr g off=>some (.gptr g (off+fd.offset))
   |_=>none
  |_=>none
 |none=>none
def jI (t:TypeId) (x:AV):Option AV:=match P.underlying t,x with
 |some (.array n _),.rsl _ id off len _=>match Nat.ble n len with
  |true=>some (.ptr id off)
  |false=>none
 |some (.array n _),.fsl _ es=>match Nat.ble n (ab es)&&(Nat.blt 0 n&&aR es) with
  |true=>some (.fptr es 0)
  |false=>none
 |_,_=>none
def c7 (t:TypeId) (x i:AV):Option AV:=do
 let i←ck i
 match P.underlying t with
 | some (.array n e)=>
  let sz←aE P e
  if Nat.blt i n then
   match x with
   | .ptr id off=>some (.ptr id (off+i*sz))
   | .fptr cs off=>some (.fptr cs (off+i*sz))
   | .gptr g off=>some (.gptr g (off+i*sz))
   |_=>none
  else none
 | some (.slice e)=>
  let sz←aE P e
  match x with
  | .fsl _ es=>match aT es i with
   |some v=>if Nat.beq (ab v.cells) sz then some (.fptr v.cells 0) else none
   |none=>none
  | .rsl _ id off len sz'=>if Nat.blt i len&&Nat.beq sz sz' then some (.ptr id (off+i*sz)) else none
  |_=>none
 |_=>none
def ga (t:TypeId) (x i:AV):Option AV:=do
 let i←ck i
 match P.underlying t,x with
 |some (.array n e),.agg cs=>if Nat.blt i n then do a5 P e cs (i*(←aE P e)) else none
 |some .string,.str s=>(aT s i).map fun b=> .int .u8 (.ofNat b.toNat)
 |_,_=>none
def cJ (place:Nat→Option (Nat × Nat)):List AV→List (Nat × AV)→Option (List AV)
 |cells,[]=>some cells
 | cells,(i,v)::rest=>
  match place i with
  | some (off,size)=>if Nat.beq (ab v.cells) size&&Nat.blt 0 size then
    match splice cells off v.cells with
    |some c=>cJ place c rest
    |none=>none
   else none
  |none=>none
def e8:List Field→Option (List (Nat × Nat))
 |[]=>some []
 | f::fs=>match aE P f.type with
  |some s=>match e8 fs with
   |some l=>some ((f.offset,s)::l)
   |none=>none
  |none=>none
def ea:Option (List AV)→Option AV
 |some l=>some (.agg l)
 |none=>none
def gb (t:TypeId) (parts:List (Nat × AV)):Option AV:=
 match bt P t,P.underlying t with
 |some z,some (.struct fs)=>match e8 P fs.toList with
  |some pl=>ea (cJ (aT pl) z.cells parts)
  |none=>none
 |some z,some (.array _ e)=>match aE P e with
  |some s=>ea (cJ (fun i=>some (i*s,s)) z.cells parts)
  |none=>none
 |_,_=>none
def eb (sz:Nat):List AV→List (Nat × AV)→Option (List AV)
 |es,[]=>some es
 |es,(i,v)::rest=>if Nat.beq (ab v.cells) sz&&Nat.blt i (ab es) then eb sz (fY es i v) rest else none
def gc:Option (List AV)→Option AV
 |some l=>some (.fsl true l)
 |none=>none
def gd (t:TypeId) (len:Nat) (parts:List (Nat × AV)):Option AV:=
 match bh P t with
 | some e=>match aE P e,bt P e with
  |some sz,some z=>match Nat.ble (len*sz) 16777216&&Nat.beq (ab z.cells) sz&&Nat.blt 0 sz with
   |true=>gc (eb sz (a7 z len) parts)
   |false=>none
  |_,_=>none
 |none=>none
def bf (sz:Nat):List AV→Bool
 |[]=>true
 |e::t=>Nat.beq (ab e.cells) sz&&bf sz t
def ij:List AV→AV
 |[.agg cs]=> .agg [.agg cs]
 |[v]=>v
 |cs=> .agg cs
def dF (sz:Nat):Nat→List AV→Option (List AV)
 |0,_=>some []
 |n+1,l=>match chunk l 0 sz with
  |some c=>(dF sz n (l.drop sz)).map (ij c:: ·)
  |none=>none
def cm (sz:Nat) (x:AV) (k:Nat→List AV→Option Eff):Option Eff:=
 match x with
 | .fsl _ es=>if bf sz es then k (ab es) (flat es) else none
 | .nilsl=>k 0 []
 | .nesl=>k 0 []
 | .str s=>if Nat.beq sz 1 then k (ab s) (aw s) else none
 | .rsl _ id off len _=>some<| .read id fun
  | .cells l=>match chunk l off (len*sz) with
   |some cs=>k len cs
   |none=>none
  |_=>none
 |_=>none
def e9 (xd:TypeDesc) (sz bytes:Nat) (z x:AV) (k:Nat→List AV→Option Eff):Option Eff:=
 match xd with
 | .slice _| .string=>cm sz x k
 | .int _=>match x with
  | .int _ (.ofNat n)=>match Nat.ble n 9223372036854775807&&Nat.ble (n*bytes) 281474976710656 with
   |true=>k n (flat (a7 z n))
   |false=>none
  |_=>none
 |_=>none
def ec (argTypes:Array TypeId) (s x:AV):Option Eff:=
 match argTypes[0]?,argTypes[1]? with
 | some st,some xt=>
  match P.underlying st,P.underlying xt with
  | some (.slice e),some xd=>
   match P.info? e,bt P e with
   | some i,some z=>
    if Nat.beq i.size 0||Nat.beq i.bytes 0|| !Nat.beq (ab z.cells) i.size then none else
    e9 xd i.size i.bytes z x fun n cs=>
     match s with
     | .nilsl=>if Nat.beq n 0 then some (.val .nilsl) else
       if Nat.ble (n*i.bytes) 140737488355328 then some (.new (.cells cs) fun id=> .rsl true id 0 n i.size) else none
     | .fsl true es=>if Nat.beq n 0 then some (.val (.fsl true es)) else
       if Nat.ble ((ab es+n)*i.bytes) 140737488355328&&bf i.size es then some (.new (.cells (flat es++cs)) fun id=> .rsl true id 0 (ab es+n) i.size) else none
     | .fsl false es=>if Nat.beq n 0 then some (.val (.fsl false es)) else none
     | .rsl true id 0 len sz=>
      if Nat.ble ((len+n)*i.bytes) 140737488355328&&aR cs&&Nat.beq sz i.size then
       some<| .repl id fun
        | .cells l=>
         if Nat.ble ((len+n)*i.size) (ab l) then
          match splice l (len*i.size) cs with
          |some l'=>some (.cells l',fun id'=> .rsl true id' 0 (len+n) i.size)
          |none=>none
         else if Nat.ble (len*i.size) (ab l) then
          some (.cells (l.take (len*i.size)++cs),fun id'=> .rsl true id' 0 (len+n) i.size)
         else none
        |_=>none
      else none
     |_=>none
   |_,_=>none
  |_,_=>none
 |_,_=>none
def dk (argTypes:Array TypeId) (x:AV):Option Eff:=
 match argTypes[0]? with
 | some t=>match P.underlying t,x with
  |some .string,.str s=>some (.val (.int .i64 (.ofNat (ab s))))
  |some (.array n _),_=>some (.val (.int .i64 (.ofNat n)))
  |some (.slice _),.fsl _ es=>some (.val (.int .i64 (.ofNat (ab es))))
  |some (.slice _),.nilsl=>some (.val (.int .i64 0))
  |some (.slice _),.rsl _ _ _ n _=>some (.val (.int .i64 (.ofNat n)))
  |some (.map _ _),.nilmap=>some (.val (.int .i64 0))
  |some (.map _ _),.map id=>some<| .read id fun
   | .mapb _ _ es=>some (.val (.int .i64 (.ofNat (ab es))))
   |_=>none
  |_,_=>none
 |none=>none
def ed (argTypes:Array TypeId) (d x:AV):Option Eff:=
 match argTypes[0]? with
 | some t=>match bh P t with
  | some e=>match aE P e with
   |some sz=>
    match d with
    | .rsl _ id off len _=>cm sz x fun n cs=>
      let m:=min n len
      if aR cs then some<| .upd id fun
       | .cells l=>match splice l off (cs.take (m*sz)) with
        |some l'=>some (.cells l',.int .i64 (.ofNat m))
        |none=>none
       |_=>none
      else none
    | .nilsl=>cm sz x fun _ _=>some (.val (.int .i64 0))
    | .fsl _ []=>cm sz x fun _ _=>some (.val (.int .i64 0))
    |_=>none
   |none=>none
  |none=>none
 |none=>none
def jJ (argTypes:Array TypeId) (x:AV):Option Eff:=
 match argTypes[0]? with
 | some t=>match P.underlying t with
  | some (.slice e)=>match aE P e,bt P e with
   | some sz,some z=>if Nat.beq (ab z.cells) sz&&aR z.cells&&Nat.blt 0 sz then
     match x with
     | .nilsl=>some (.val (.tuple []))
     | .fsl _ []=>some (.val (.tuple []))
     | .rsl _ id off len _=>some<| .upd id fun
      | .cells l=>(splice l off (flat (a7 z len))).map fun l'=>(.cells l',.tuple [])
      |_=>none
     |_=>none
    else none
   |_,_=>none
  |_=>none
 |none=>none
def gf:AV→AV→Option Bool
 | .str a,.str b=>some (cy a b)
 | .int k a,.int k' b=>if k=k' then some (bK a b) else none
 |_,_=>none
def fa (k:AV):List (AV × AV)→Option (Option AV)
 |[]=>some none
 |(k',v)::t=>match gf k k' with
  |some true=>some (some v)
  |some false=>fa k t
  |none=>none
def fb (k v:AV):List (AV × AV)→Option (List (AV × AV))
 |[]=>some [(k,v)]
 | (k',v')::t=>match gf k k' with
  |some true=>some ((k,v)::t)
  |some false=>match fb k v t with
   |some u=>some ((k',v')::u)
   |none=>none
  |none=>none
def cz (kd:TypeDesc) (k:AV):Bool:=match kd,k with
 | .string,.str _=>true
 | .int j,.int k _=>decide (j=k)
 |_,_=>false
def dm (kt:TypeId) (k:AV):Bool:=match P.underlying kt with
 |some kd=>cz kd k
 |none=>false
def fc (ok:Bool) (z:AV) (r:Option AV):AV:=match ok,r with
 |true,some v=> .tuple [v,.bool true]
 |true,none=> .tuple [z,.bool false]
 |false,some v=>v
 |false,none=>z
def il (t:TypeId) (m k:AV) (ok:Bool):Option Eff:=
 match P.underlying t with
 | some (.map kt et)=>
  match dm P kt k,bt P et with
  | true,some z=>
   match m with
   | .nilmap=>some (.val (fc ok z none))
   | .map id=>some<| .read id fun
    | .mapb _ _ es=>match fa k es with
     |some r=>some (.val (fc ok z r))
     |none=>none
    |_=>none
   |_=>none
  |_,_=>none
 |_=>none
def im (t:TypeId) (m k v:AV):Option Eff:=
 match P.underlying t with
 | some (.map kt _)=>
  match dm P kt k with
  | true=>match m with
   | .map id=>some<| .upd id fun
    | .mapb cl st es=>match fb k v es with
     |some es'=>match Nat.beq (ab es') (ab es) with
      |true=>some (.mapb cl st es',bN)
      |false=>some (.mapb (cl+1) (st++[cl]) es',bN)
     |none=>none
    |_=>none
   |_=>none
  |false=>none
 |_=>none
def fe (k:AV):List (AV × AV)→Nat→Option (Option Nat)
 |[],_=>some none
 |(k',_)::t,i=>match gf k k' with
  |some true=>some (some i)
  |some false=>fe k t (i+1)
  |none=>none
def io (argTypes:Array TypeId) (m k:AV):Option Eff:=
 match argTypes[0]? with
 | some t=>match P.underlying t with
  | some (.map kt _)=>match dm P kt k with
   | true=>match m with
    | .map id=>some<| .upd id fun
     | .mapb cl st es=>match fe k es 0 with
      |some (some i)=>some (.mapb cl (st.eraseIdx i) (es.eraseIdx i),.tuple [])
      |some none=>some (.mapb cl st es,.tuple [])
      |none=>none
     |_=>none
    |_=>none
   |false=>none
  |_=>none
 |none=>none
def bu:List Nat→Nat→Bool
 |[],_=>false
 |a::t,x=>match Nat.beq a x with
  |true=>true
  |false=>bu t x
def ef:List Nat→Nat→Bool
 |[],_=>true
 |a::t,n=>Nat.blt a n&&ef t n
def gg (m since:Nat) (seen:List Nat) (cl:Nat):List Nat→List (AV × AV)→Option (List (AV × Blk))
 |[],[]=>some []
 | s::st,(k,v)::es=>match gg m since seen cl st es with
  |some l=>match bu seen s with
   |true=>some l
   |false=>some ((.tuple [.bool true,k,v],.miter m since (seen++[s]) cl)::l)
  |none=>none
 |_,_=>none
def ff (it mp:Blk):Option (List (AV × Blk)):=
 match it,mp with
 | .miter m since seen last,.mapb cl st es=>match ef st since&&Nat.ble since last with
  |true=>gg m since seen cl st es
  |false=>none
 |_,_=>none
def jK (t:TypeId) (x:AV):Option Eff:=
 match P.underlying t,x with
 |some (.map _ _),.map m=>some<| .read m fun
  | .mapb cl _ _=>some (.new (.miter m cl [] cl) fun id=> .ptr id 0)
  |_=>none
 |_,_=>none
def jL (x:AV) (isString:Bool):Option Eff:=
 match x,isString with
 | .ptr id 0,false=>some<| .read id fun
  | .miter m since seen last=>some<| .read m fun mp=>match ff (.miter m since seen last) mp with
   |some []=>some (.val (.tuple [.bool false]))
   |some [(v,b)]=>some (.upd id fun
    | .miter _ _ _ _=>some (b,v)
    |_=>none)
   |_=>none
  |_=>none
 |_,_=>none
def fg:List Nat→Option Nat
 |[]=>none
 |[a]=>some a
 |_::t=>fg t
def gh (s:Nat):List Nat→List (AV × AV)→Option AV
 |a::st,(k,v)::es=>match Nat.beq a s with
  |true=>some (.tuple [k,v])
  |false=>gh s st es
 |_,_=>none
def jM (x:AV):Option Eff:=
 match x with
 | .ptr id 0=>some<| .read id fun
  | .miter m _ seen last=>some<| .read m fun
   | .mapb cl st es=>match Nat.beq cl last,fg seen with
    |true,some s=>match gh s st es with
     |some v=>some (.val v)
     |none=>none
    |_,_=>none
   |_=>none
  |_=>none
 |_=>none
def jN:List AV→Option AV
 |[]=>none
 |x::rest=>rest.foldlM (fun x y=>match x,y with
  | .int k a,.int _ b=>some (.int k (if aV b a then b else a))
  |_,_=>none) x
def jO:List AV→Option AV
 |[]=>none
 |x::rest=>rest.foldlM (fun x y=>match x,y with
  | .int k a,.int _ b=>some (.int k (if aV a b then b else a))
  |_,_=>none) x
def jP (x:AV) (asserted:TypeId) (ok:Bool):Option AV:=
 match P.underlying asserted with
 |some (.interface _)=>none
 | some _=>match x with
  | .iface t v=>if t=asserted then some (if ok then .tuple [v,.bool true] else v)
   else if ok then (bt P asserted).map fun z=> .tuple [z,.bool false] else none
  | .nilIface=>if ok then (bt P asserted).map fun z=> .tuple [z,.bool false] else none
  |_=>none
 |none=>none
def dG (b:Builtin) (argTypes:Array TypeId) (args:List AV):Option Eff:=
 match b,args with
 | .append,[s,x]=>ec P argTypes s x
 | .len,[x]=>dk P argTypes x
 | .copy,[d,x]=>ed P argTypes d x
 | .clear,[x]=>jJ P argTypes x
 | .delete,[m,k]=>io P argTypes m k
 | .min,l=>(jN l).map .val
 | .max,l=>(jO l).map .val
 |_,_=>none
def ip (t:TypeId) (name:String):Option FuncId:=
 match P.info? t with
 | some i=>match i.methods.find? (·.name==name) with
  | some m=>match m.path.isEmpty with
   |true=>match m.func,P.underlying t with
    |some (f,true),some (.pointer _)=>some f
    |some (_,false),some (.pointer _)=>none
    |some (f,false),some _=>some f
    |_,_=>none
   |false=>none
  |none=>none
 |none=>none
def jQ (t:TypeId) (name:String):Option (TypeId × FuncId):=
 match P.info? t with
 | some i=>match i.methods.find? (·.name==name) with
  | some m=>match m.path.isEmpty with
   |true=>match m.func,P.underlying t with
    |some (f,false),some (.pointer e)=>some (e,f)
    |_,_=>none
   |false=>none
  |none=>none
 |none=>none
def m7 (f:FuncId) (rest:List AV):Eff→Option Eff
 | .val u=>some (.call f (u::rest))
 |_=>none
def gi (glob:Nat→Option (List AV)) (t:TypeId) (v:AV) (name:String) (rest:List AV):Option Eff:=
 match ip P t name with
 |some f=>some (.call f (v::rest))
 | none=>match jQ P t name with
  |some (e,f)=>match bS P e v glob with
   |some (.val u)=>some (.call f (u::rest))
   |some (.read id k)=>some (.read id fun b=>(k b).bind (m7 f rest))
   |_=>none
  |none=>none
def iq (glob:Nat→Option (List AV)) (fn:Fn) (args captured:List AV):Option Eff:=
 match fn with
 | .func f=>some (.call f (args++captured))
 | .method name=>match args with
  | .iface t v::rest=>gi P glob t v name rest
  |_=>none
 | .methodOf t name=>match args with
  | r::rest=>match P.underlying t with
   |some (.interface _)=>match r with
    | .iface t' v=>gi P glob t' v name rest
    |_=>none
   |some _=>gi P glob t r name rest
   |none=>none
  |_=>none
 |_=>none
def cd (ev:Operand→Option AV):List Operand→Option (List AV)
 |[]=>some []
 |x::t=>match ev x with
  |some v=>(cd ev t).map (v:: ·)
  |none=>none
def c8 (ev:Operand→Option AV):List (Nat × Operand)→Option (List (Nat × AV))
 |[]=>some []
 |(i,x)::t=>match ev x with
  |some v=>(c8 ev t).map ((i,v):: ·)
  |none=>none
def bT (ev:Operand→Option AV):Option Operand→Option (Option AV)
 |none=>some none
 |some x=>(ev x).map some
def e1 (ev:Operand→Option AV) (x:Operand) (k:AV→Option Eff):Option Eff:=
 match ev x with
 |some v=>k v
 |none=>none
def e2 (ev:Operand→Option AV) (x y:Operand) (k:AV→AV→Option Eff):Option Eff:=
 match ev x,ev y with
 |some v,some w=>k v w
 |_,_=>none
def e3 (ev:Operand→Option AV) (x y z:Operand) (k:AV→AV→AV→Option Eff):Option Eff:=
 match ev x,ev y,ev z with
 |some v,some w,some u=>k v w u
 |_,_,_=>none
def aC:Option AV→Option Eff
 |some v=>some (.val v)
 |none=>none
def ir (ev:Operand→Option AV) (c a b:Operand):Option Eff:=
 match ev c with
 |some (.bool true)=>aC (ev a)
 |some (.bool false)=>aC (ev b)
 |_=>none
def fh (v:AV):Option Eff:=some (.new (.cells v.cells) fun id=> .ptr id 0)
def m8 (t:TypeId):Option Eff:=match bt P t with
 |some z=>fh z
 |none=>none
def iu (ev:Operand→Option AV) (t:TypeId) (parts:Array (Nat × Operand)):Option Eff:=
 match c8 ev parts.toList with
 |some ps=>aC (gb P t ps)
 |none=>none
def fl (ev:Operand→Option AV) (t:TypeId) (n:Nat) (parts:Array (Nat × Operand)):Option Eff:=
 match c8 ev parts.toList with
 |some ps=>aC (gd P t n ps)
 |none=>none
def jR (ev:Operand→Option AV) (t:TypeId) (n:Nat) (parts:Array (Nat × Operand)):Option Eff:=
 match fl P ev t n parts with
 | some (.val (.fsl true es))=>match bh P t with
  |some e=>match aE P e with
   |some sz=>some (.new (.cells (flat es)) fun id=> .rsl true id 0 n sz)
   |none=>none
  |none=>none
 |_=>none
def jS (ev:Operand→Option AV) (t:TypeId) (x:Operand):Option Eff:=
 match P.underlying t with
 |some (.interface _)=>none
 |some _=>match ev x with
  |some v=>some (.val (.iface t v))
  |none=>none
 |none=>none
def jT (ev:Operand→Option AV) (fn:Fn) (a b:Array Operand):Option Eff:=
 match cd ev a.toList,cd ev b.toList with
 |some a,some b=>some (.val (.func fn a b))
 |_,_=>none
def gj (ev:Operand→Option AV) (t:TypeId) (x:Operand) (lo hi mx:Option Operand):Option Eff:=
 match ev x,bT ev lo,bT ev hi,bT ev mx with
 |some x,some lo,some hi,some mx=>c6 P t x lo hi mx
 |_,_,_,_=>none
def jU (ev:Operand→Option AV) (t:TypeId) (x:Operand) (f:Nat):Option Eff:=
 match d9 P t f,ev x with
 |some fd,some (.agg cs)=>aC (a5 P fd.type cs fd.offset)
 |_,_=>none
def iv (ev:Operand→Option AV) (t:Operand) (i:Nat):Option Eff:=
 match ev t with
 |some (.tuple vs)=>aC (aT vs i)
 |_=>none
def cK (glob:Nat→Option (List AV)) (ev:Operand→Option AV) (c:Call):Option Eff:=
 match cd ev c.args.toList with
 |none=>none
 | some args=>match c.callee with
  | .builtin b=>dG P b c.argTypes args
  | .value f=>match ev f with
   |some (.func fn first captured)=>iq P glob fn (first++args) captured
   |_=>none
  | .invoke r name=>match ev r with
   |some v=>iq P glob (.method name) (v::args) []
   |none=>none
def aq (glob:Nat→Option (List AV)) (ev:Operand→Option AV) (o:Oper):Option Eff:=
 match o.op with
 | .move x=>aC (ev x)
 | .assign x=>aC (ev x)
 | .pick c a b=>ir ev c a b
 | .alloc t=>m8 P t
 | .box _ x=>e1 ev x fh
 | .build t parts=>iu P ev t parts
 | .buildSlice t n parts=>fl P ev t n parts
 | .load t a=>e1 ev a fun a=>bS P t a glob
 | .store t a x=>e2 ev a x (d7 P t)
 | .nilCheck x=>e1 ev x fun v=>aC (f4 v)
 | .binOp op t x y _=>e2 ev x y fun v w=>aC (a6 P op t x y v w)
 | .unOp op _ x=>e1 ev x fun v=>aC (jC op v)
 | .convert s d x=>e1 ev x (cZ P s d)
 | .makeInterface t x=>jS P ev t x
 | .makeFunc fn a b=>jT ev fn a b
 | .makeMap _ none=>some (.new (.mapb 0 [] []) .map)
 | .makeSlice t l c=>e2 ev l c (f5 P t)
 | .slice t x lo hi mx=>gj P ev t x lo hi mx
 | .fieldAddr t x f=>e1 ev x fun v=>aC (f9 P t v f)
 | .field t x f=>jU P ev t x f
 | .indexAddr t x i=>e2 ev x i fun v w=>aC (c7 P t v w)
 | .index t x i=>e2 ev x i fun v w=>aC (ga P t v w)
 | .sliceToArrayPointer t x=>e1 ev x fun v=>aC (jI P t v)
 | .lookup t m k ok=>e2 ev m k fun m k=>il P t m k ok
 | .mapUpdate t m k v=>e3 ev m k v (im P t)
 | .typeAssert x _ a ok=>e1 ev x fun v=>aC (jP P v a ok)
 | .extract t i=>iv ev t i
 | .range t x=>e1 ev x fun v=>jK P t v
 | .next x b=>e1 ev x fun v=>jL v b
 | .entry x=>e1 ev x fun v=>jM v
 | .call c=>cK P glob ev c
 |_=>none
end
def qd (P:Program) (f:FuncId):Bool:=match P.funcs[f]? with
 |some fn=>fn.name== "locksmith/locksmithlaw19.of"
 |none=>false
def jV (d:Nat):List Operand→Bool
 |[]=>false
 | .tmp x::t=>match Nat.beq x d with
  |true=>true
  |false=>jV d t
 |_::t=>jV d t
def m9 (P:Program):List Oper→Nat→Bool
 |[],_=>false
 | c::t,d=>match (match c.op with
   | .convert s u (.tmp x)=>Nat.beq s u&&Nat.beq x d
   | .call c=>match c.callee with
    | .value (.func f)=>jV d c.args.toList&&qd P f
    |_=>false
   |_=>false) with
  |true=>true
  |false=>m9 P t d
def aF (P:Program) (glob:Nat→Option (List AV)) (ops:List Oper) (ev:Operand→Option AV) (o:Oper):Option Eff:=
 match o.op,o.dst with
 | .buildSlice t n parts,some d=>match m9 P ops d with
  |true=>jR P ev t n parts
  |false=>aq P glob ev o
 |_,_=>aq P glob ev o
structure St where
 slots:Tr
 heap:aa
 nx:Nat
 n:Nat
def aj (slots:Tr):Operand→Option AV
 | .tmp t=>slots.get t
 | .const v=>ofValue v
 | .global g=>some (.gptr g 0)
 | .func f=>some (.func (.func f) [] [])
structure Foot where
 all:Bool
 r:List Nat
 w:List Nat
def eg:List Nat→List Nat→Bool
 |[],_=>true
 |a::t,l=> !bu l a&&eg t l
def Foot.none (f:Foot):Bool:= !f.all&&f.r.isEmpty&&f.w.isEmpty
def Foot.apart (f g:Foot):Bool:=match g.w with
 |n::l=>(ef f.r n&&ef f.w n)&&(eg f.w (g.r++l)&&eg l f.r)
 |[]=>false
def Foot.compat (f g:Foot):Bool:=
 f.none||g.none||(match f.all,g.all with
  |false,false=>eg f.w (g.r++g.w)&&eg g.w f.r
  |false,true=>f.apart g
  |true,false=>g.apart f
  |true,true=>false)
abbrev af:=FuncId→List AV→Nat→aa→Nat→Option (AV × aa × Nat × Foot)
def ai (call:af) (id:Nat):Nat→Eff→aa→Nat→Option (AV × aa × Nat × Foot)
 |_,.val v,h,nx=>some (v,h,nx,⟨false,[],[]⟩)
 |_,.skip,h,nx=>some (bN,h,nx,⟨false,[],[]⟩)
 | _,.upd i k,h,nx=>match hget h i with
  |some b=>match k b with
   |some (b',v)=>some (v,an h i b',nx,⟨false,[],[i]⟩)
   |none=>none
  |none=>none
 |_,.new b k,h,nx=>some (k id,an h id b,nx,⟨false,[],[id]⟩)
 | _,.repl i k,h,nx=>match hget h i with
  |some b=>match k b with
   |some (b',v)=>some (v id,an (ao h i) id b',nx,⟨false,[],[i,id]⟩)
   |none=>none
  |none=>none
 | _,.shut i k,h,nx=>match hget h i with
  |some b=>match k b with
   |some v=>some (v,ao h i,nx,⟨false,[],[i]⟩)
   |none=>none
  |none=>none
 |_,.call f args,h,nx=>call f args id h nx
 |0,.read _ _,_,_=>none
 | n+1,.read i k,h,nx=>match hget h i with
  | some b=>match k b with
   |some e=>match ai call id n e h nx with
    |some (v,h',nx',ft)=>some (v,h',nx',⟨ft.all,i::ft.r,ft.w⟩)
    |none=>none
   |none=>none
  |none=>none
def aW (ops:List Oper) (o:Oper) (slots:Tr):Option Bool:=
 match o.guard with
 |none=>some true
 | some (j,want)=>match aT ops j with
  | some g=>match g.dst with
   |some d=>match slots.get d with
    |some (.bool b)=>some (b==want)
    |some (.tuple [])=>some false
    |_=>none
   |none=>none
  |none=>none
def aI (n:Nat) (slots:Tr):Option Tmp→AV→Tr
 |some d,v=>match Nat.blt d n with
  |true=>slots.set 12 d v
  |false=>slots
 |none,_=>slots
section
variable (P:Program) (glob:Nat→Option (List AV)) (call:af)
def bc (ops:List Oper) (id:Nat) (o:Oper) (s:St):Option (St × Foot):=
 match aW ops o s.slots with
 | some true=>match aF P glob ops (aj s.slots) o with
  |some e=>match ai call id 2 e s.heap s.nx with
   |some (v,h,nx,ft)=>some (⟨aI s.n s.slots o.dst v,h,nx,s.n⟩,ft)
   |none=>none
  |none=>none
 |some false=>some (⟨aI s.n s.slots o.dst bN,s.heap,s.nx,s.n⟩,⟨false,[],[]⟩)
 |none=>none
def aY (all:List Oper) (base:Nat):List Oper→Nat→St→List (Nat × Foot)→Option (St × List (Nat × Foot))
 |[],_,s,acc=>some (s,acc)
 |o::rest,i,s,acc=>match bc P glob call all (base+i) o s with
  |some (s',ft)=>aY all base rest (i+1) s' (match ft.none with|true=>acc|false=>(i,ft)::acc)
  |none=>none
end
def eh (e:Edge):Bool:=match e.ground with
 | .textOnly _| .gcOnly _=>false
 |_=>true
def gk (acc:List Nat) (es:List Edge):Nat:=
 es.foldl (fun s e=>if eh e then s|||2^e.on|||(aT acc e.on).getD 0 else s) 0
def bv:List Oper→List Nat→List Nat
 |[],acc=>acc
 |o::t,acc=>bv t (acc++[gk acc o.after.toList])
def c9 (bs:List Nat):List (Nat × Foot)→Bool
 |[]=>true
 |(j,fj)::t=>(t.all fun (i,fi)=>(((aT bs j).getD 0).testBit i)||fi.compat fj)&&c9 bs t
def ei (ops:List Oper) (o:Oper):List Tmp:=
  (o.op.operands.toList.filterMap fun| .tmp t=>some t|_=>none)++
  (match o.guard with
   |some (g,_)=>((aT ops g).bind (·.dst)).toList
   |none=>[])
def ej (ops:List Oper) (x y:Oper):Bool:=
  (match x.dst with
   |some d=> !bu (ei ops y) d&&(match y.dst with|some e=> !Nat.beq e d|none=>true)
   |none=>true)&&
  (match y.dst with
   |some d=> !bu (ei ops x) d
   |none=>true)
def iw (ops:List Oper) (bj:Nat) (oj:Oper):List Oper→Nat→Bool
 |[],_=>true
 |oi::t,i=>(bj.testBit i||ej ops oi oj)&&iw ops bj oj t (i+1)
def ix (ops:List Oper) (bs:List Nat):List Oper→Nat→Bool
 |[],_=>true
 |oj::t,j=>iw ops ((aT bs j).getD 0) oj (ops.take j) 0&&ix ops bs t (j+1)
def iy:List Oper→Nat→Bool
 |[],_=>true
 |o::t,j=>(o.after.toList.all fun e=> !eh e||Nat.blt e.on j)&&iy t (j+1)
def dn (ops:List Oper):Bool:=iy ops 0&&ix ops (bv ops []) ops 0
inductive AExit where
 |normal
 |exit (id:Nat)
 |ret
def fm (body:St→Option (AExit × St)):Nat→St→Option (AExit × St)
 |0,_=>none
 |n+1,s=>match body s with
  |some (.normal,s')=>fm body n s'
  |r=>r
section
variable (P:Program) (glob:Nat→Option (List AV)) (call:af)
def aN (lf:Nat):Code→St→Option (AExit × St)
 | .skip,s| .label _,s=>some (.normal,s)
 | .region _ ops draw,s=>
  match aY P glob call ops.toList s.nx ops.toList 0 ⟨s.slots,s.heap,s.nx+ab ops.toList,s.n⟩ [] with
  | some (s',feet)=>match draw with
   |false=>some (.normal,s')
   |true=>match dn ops.toList&&c9 (bv ops.toList []) feet with
    |true=>some (.normal,s')
    |false=>none
  |none=>none
 | .seq a b,s=>match aN lf a s with
  |some (.normal,s')=>aN lf b s'
  |r=>r
 | .cond c a b,s=>match aj s.slots c with
  |some (.bool true)=>aN lf a s
  |some (.bool false)=>aN lf b s
  |_=>none
 | .block id body,s=>match aN lf body s with
  |some (.exit i,s')=>match Nat.beq i id with
   |true=>some (.normal,s')
   |false=>some (.exit i,s')
  |r=>r
 | .loop body,s=>fm (aN lf body) lf s
 | .exit id,s=>some (.exit id,s)
 | .ret,s=>some (.ret,s)
 |_,_=>none
end
mutual
def ac:AV→Bool
 | .ptr _ _| .rsl _ _ _ _ _| .map _=>false
 | .fptr cs _| .fsl _ cs| .agg cs| .tuple cs=>ag cs
 | .func _ a b=>ag a&&ag b
 | .iface _ v=>ac v
 |_=>true
def ag:List AV→Bool
 |[]=>true
 |a::t=>ac a&&ag t
end
def aH (f:AV→Option AV):List AV→Option (List AV)
 |[]=>some []
 | a::t=>match f a with
  |some b=>match aH f t with
   |some u=>some (b::u)
   |none=>none
  |none=>none
def ah (n:Nat) (h:aa):Nat→AV→Option AV
 |0,_=>none
 | d +1,v=>match v with
  | .ptr id off=>match Nat.blt id n with
   |true=>some v
   | false=>match hget h id with
    |some (.cells l)=>match aH (ah n h d) l with
     |some l'=>some (.fptr l' off)
     |none=>none
    |_=>none
  | .rsl _ id off len sz=>match Nat.blt id n with
   |true=>some v
   | false=>match hget h id with
    | some (.cells l)=>match dF sz len (l.drop off) with
     |some es=>match aH (ah n h d) es with
      |some es'=>some (.fsl false es')
      |none=>none
     |none=>none
    |_=>none
  | .fptr cs off=>match aH (ah n h d) cs with
   |some cs'=>some (.fptr cs' off)
   |none=>none
  | .fsl f es=>match aH (ah n h d) es with
   |some es'=>some (.fsl f es')
   |none=>none
  | .agg cs=>match aH (ah n h d) cs with
   |some cs'=>some (.agg cs')
   |none=>none
  | .tuple cs=>match aH (ah n h d) cs with
   |some cs'=>some (.tuple cs')
   |none=>none
  | .func fn a b=>match aH (ah n h d) a,aH (ah n h d) b with
   |some a',some b'=>some (.func fn a' b')
   |_,_=>none
  | .iface t v=>match ah n h d v with
   |some v'=>some (.iface t v')
   |none=>none
  | .map id=>match Nat.blt id n with
   |true=>some v
   |false=>none
  |v=>some v
def cn (n:Nat):aa→aa
 |[]=>[]
 |(i,b)::t=>match Nat.blt i n with
  |true=>(i,b)::cn n t
  |false=>cn n t
def bD (P:Program) (glob:Nat→Option (List AV)) (s:St):List ResultVar→Option (List AV)
 |[]=>some []
 | r ::t=>
  match (match r with
   | .tmp x=>s.slots.get x
   | .cell a ty=>match s.slots.get a with
    | some p=>match bS P ty p glob with
     |some (.val v)=>some v
     | some (.read id k)=>match hget s.heap id with
      |some b=>match k b with
       |some (.val v)=>some v
       |_=>none
      |none=>none
     |_=>none
    |none=>none) with
  |some v=>match bD P glob s t with
   |some l=>some (v::l)
   |none=>none
  |none=>none
def bP:List AV→AV
 |[v]=>v
 |l=> .tuple l
inductive gm where
 |pure|fresh|keep
 |look (d:Nat)|each (d:Nat)|clone
 |part (d:Nat)|cmp|known
def bz:List AV→Nat→Tr→Tr
 |[],_,t=>t
 |v::vs,k,t=>bz vs (k+1) (t.set 12 k v)
structure ar where
 how:FuncId→gm
 summ:FuncId→List AV→Option AV
 glob:Nat→Option (List AV)
 lf:Nat
 cx:af:=fun _ _ _ _ _=>none
def bU (P:Program) (O:ar) (call:af) (f:FuncId) (args:List AV) (h:aa) (nx:Nat):Option (AV × aa × Nat):=
  match P.funcs[f]? with
  | some fn=>match fn.body with
    | some c=>match fn.name== "runtime.NumGoroutine" with
      |true=>none
      | false=>match Nat.ble (ab args) fn.ntmps&&Nat.ble fn.ntmps 4095 with
       |false=>none
       |true=>match aN P O.glob call O.lf c ⟨bz args 0 .tip,h,nx,fn.ntmps⟩ with
        | some (.normal,s)|some (.ret,s)=>match bD P O.glob s fn.results.toList with
          |some l=>some (bP l,s.heap,s.nx)
          |none=>none
        |_=>none
    |none=>none
  |none=>none
def cA (h':aa) (v:AV) (id:Nat) (h:aa) (nx:Nat):Option (AV × aa × Nat × Foot):=
 match v with
 | .rsl true i 0 len sz=>match hget h' i with
  | some (.cells l)=>match aH (ah 0 (ao h' i) 40) l with
   |some l'=>match ag l' with
    |true=>some (.rsl true id 0 len sz,an h id (.cells l'),nx,⟨false,[],[id]⟩)
    |false=>none
   |none=>none
  |_=>none
 | .ptr i off=>match hget h' i with
  | some (.cells l)=>match aH (ah 0 (ao h' i) 40) l with
   |some l'=>match ag l' with
    |true=>some (.ptr id off,an h id (.cells l'),nx,⟨false,[],[id]⟩)
    |false=>none
   |none=>none
  |_=>none
 | v=>match ah 0 h' 40 v with
  |some v'=>match ac v' with
   |true=>some (v',h,nx,⟨false,[],[]⟩)
   |false=>none
  |none=>none
def fo (i:Nat) (acc:List Nat):List Nat:=match bu acc i with
 |true=>acc
 |false=>i::acc
mutual
def bV:AV→List Nat→List Nat
 | .ptr i _,acc=>fo i acc
 | .rsl _ i _ _ _,acc=>fo i acc
 | .map i,acc=>fo i acc
 | .fptr cs _,acc=>aA cs acc
 | .fsl _ cs,acc=>aA cs acc
 | .agg cs,acc=>aA cs acc
 | .tuple cs,acc=>aA cs acc
 | .func _ a b,acc=>aA b (aA a acc)
 | .iface _ v,acc=>bV v acc
 |_,acc=>acc
def aA:List AV→List Nat→List Nat
 |[],acc=>acc
 |a::t,acc=>aA t (bV a acc)
end
def iz:List (AV × AV)→List Nat→List Nat
 |[],acc=>acc
 |(a,b)::t,acc=>iz t (bV b (bV a acc))
def jW:Blk→List Nat→List Nat
 | .cells l,acc=>aA l acc
 | .siter _ _,acc=>acc
 | .mapb _ _ es,acc=>iz es acc
 | .miter m _ _ _,acc=>fo m acc
def dH (h:aa):List Nat→List Nat→List Nat
 |[],acc=>acc
 |i::t,acc=>match hget h i with
  |some b=>dH h t (jW b acc)
  |none=>dH h t acc
def aB (h:aa):Nat→List Nat→List Nat
 |0,l=>l
 |d+1,l=>aB h d (dH h l l)
def aD (h:aa):List Nat→aa
 |[]=>[]
 |i::t=>aM (aD h t) i (hget h i)
mutual
def bo (n:Nat):AV→Bool
 | .ptr i _=>Nat.blt i n
 | .rsl _ i _ _ _=>Nat.blt i n
 | .map i=>Nat.blt i n
 | .fptr cs _=>cB n cs
 | .fsl _ cs=>cB n cs
 | .agg cs=>cB n cs
 | .tuple cs=>cB n cs
 | .func _ a b=>cB n a&&cB n b
 | .iface _ v=>bo n v
 |_=>true
def cB (n:Nat):List AV→Bool
 |[]=>true
 |a::t=>bo n a&&cB n t
end
def gn (n:Nat):List (AV × AV)→Bool
 |[]=>true
 |(a,b)::t=>bo n a&&(bo n b&&gn n t)
def gp (n:Nat):Blk→Bool
 | .cells l=>cB n l
 | .siter _ _=>true
 | .mapb _ _ es=>gn n es
 | .miter m _ _ _=>Nat.blt m n
mutual
def dp:AV→AV→Bool
 | .bool a,.bool b=>(a&&b)||(!a&& !b)
 | .int k a,.int k' b=>decide (k=k')&&bK a b
 | .str a,.str b=>cy a b
 | .ptr i o,.ptr j p=>Nat.beq i j&&Nat.beq o p
 | .nilp,.nilp=>true
 | .fptr a o,.fptr b p=>Nat.beq o p&&bi a b
 | .fsl f a,.fsl g b=>((f&&g)||(!f&& !g))&&bi a b
 | .rsl f i o l z,.rsl g j p m y=>((f&&g)||(!f&& !g))&&(Nat.beq i j&&(Nat.beq o p&&(Nat.beq l m&&Nat.beq z y)))
 | .nilsl,.nilsl=>true
 | .nesl,.nesl=>true
 | .map i,.map j=>Nat.beq i j
 | .nilmap,.nilmap=>true
 | .func (.func f) a b,.func (.func g) c d=>Nat.beq f g&&(bi a c&&bi b d)
 | .nilFunc,.nilFunc=>true
 | .iface t v,.iface u w=>Nat.beq t u&&dp v w
 | .nilIface,.nilIface=>true
 | .agg a,.agg b=>bi a b
 | .tuple a,.tuple b=>bi a b
 |_,_=>false
def bi:List AV→List AV→Bool
 |[],[]=>true
 |a::t,b::u=>dp a b&&bi t u
 |_,_=>false
end
def fp:List (AV × AV)→List (AV × AV)→Bool
 |[],[]=>true
 |(a,b)::t,(c,d)::u=>dp a c&&(dp b d&&fp t u)
 |_,_=>false
def fq:List Nat→List Nat→Bool
 |[],[]=>true
 |a::t,b::u=>Nat.beq a b&&fq t u
 |_,_=>false
def gq:Blk→Blk→Bool
 | .cells a,.cells b=>bi a b
 | .mapb c s a,.mapb d t b=>Nat.beq c d&&(fq s t&&fp a b)
 |_,_=>false
def fu (f:AV→Option AV):List (AV × AV)→Option (List (AV × AV))
 |[]=>some []
 | (a,b)::t=>match f a with
  | some a'=>match f b with
   |some b'=>match fu f t with
    |some u=>some ((a',b')::u)
    |none=>none
   |none=>none
  |none=>none
def dI (n:Nat) (h:aa):Blk→Option Blk
 | .cells l=>match aH (ah n h 40) l with
  |some l'=>some (.cells l')
  |none=>none
 | .mapb cl st es=>match fu (ah n h 40) es with
  |some es'=>some (.mapb cl st es')
  |none=>none
 |b=>some b
abbrev Mods:=List (Nat × Option Blk)
def Mods.app:Mods→aa→aa
 |[],h=>h
 |(k,b)::t,h=>Mods.app t (aM h k b)
def Mods.keys:Mods→List Nat
 |[]=>[]
 |(k,_)::t=>k::Mods.keys t
def cL (n:Nat) (h1 h:aa):List Nat→Option Mods
  |[]=>some []
  | i :: t => match Nat.blt i n with
   |false=>none
   | true =>match cL n h1 h t with
    | some m=>match hget h1 i,hget h i with
      |none,none=>some m
      |none,some _=>some ((i,none)::m)
      | some b,o=>match dI n h1 b with
        | some b'=>match gp n b' with
          | true=>match (match o with
              |some c=>gq c b'
              |none=>false) with
            |true=>some m
            |false=>some ((i,some b')::m)
          |false=>none
        |none=>none
    |none=>none
def lookEnd (L:List Nat) (id nx:Nat) (h:aa) (v:AV) (h1:aa):Option (AV × Option (List AV) × Mods):=
  match v with
  | .rsl true i 0 len sz=>match Nat.blt i nx with
    |true=>lookPlain v
    | false=>match hget h1 i with
      | some (.cells l)=>match aH (ah nx (ao h1 i) 40) l with
        | some l'=>match cB nx l',cL nx (ao h1 i) h L with
          |true,some m=>some (.rsl true id 0 len sz,some l',m)
          |_,_=>none
        |none=>none
      |_=>none
  |v=>lookPlain v
 where
  lookPlain (v:AV):Option (AV × Option (List AV) × Mods):=match ah nx h1 40 v with
    | some v'=>match bo nx v',cL nx h1 h L with
      |true,some m=>some (v',none,m)
      |_,_=>none
    |none=>none
def bW (L:List Nat) (id nx:Nat) (h:aa) (r:AV × Option (List AV) × Mods):AV × aa × Nat × Foot:=
 (r.1,(match r.2.1 with
  |none=>Mods.app r.2.2 h
  |some l=>an (Mods.app r.2.2 h) id (.cells l)),nx,⟨false,nx::L,id::r.2.2.keys⟩)
def em (P:Program) (O:ar) (call:af) (d:Nat) (f:FuncId) (args:List AV) (id:Nat) (h:aa) (nx:Nat):Option (AV × aa × Nat × Foot):=
 match bU P O call f args (aD h (aB h d (aA args []))) nx with
 |some (v,h1,_)=>match lookEnd (aB h d (aA args [])) id nx h v h1 with
  |some r=>some (bW (aB h d (aA args [])) id nx h r)
  |none=>none
 |none=>none
section
variable (P:Program) (glob:Nat→Option (List AV)) (call:af)
def fv (k:AExit × St→Option (List (AExit × St))):List (AExit × St)→Option (List (AExit × St))
 |[]=>some []
 | a::t=>match k a with
  |some l=>match fv k t with
   |some u=>some (l++u)
   |none=>none
  |none=>none
def gu (body:St→Option (List (AExit × St))):Nat→St→Option (List (AExit × St))
 |0,_=>none
 | n+1,s=>match body s with
  |some l=>fv (fun p=>match p with
   |(.normal,s')=>gu body n s'
   |r=>some [r]) l
  |none=>none
def gv (ops:List Oper) (rest:List Oper) (dst:Option Tmp) (it:Nat) (s:St):List (AV × Blk)→Option (List (AExit × St))
 |[]=>some []
 | (v,b)::t=>match aY P glob call ops (s.nx-ab ops) rest 1 ⟨aI s.n s.slots dst v,an s.heap it b,s.nx,s.n⟩ [] with
  |some (s',_)=>match gv ops rest dst it s t with
   |some l=>some ((.normal,s')::l)
   |none=>none
  |none=>none
def bX (lf:Nat):Code→St→Option (List (AExit × St))
 | .seq a b,s=>match bX lf a s with
  |some l=>fv (fun p=>match p with
   |(.normal,s')=>bX lf b s'
   |r=>some [r]) l
  |none=>none
 | .cond c a b,s=>match aj s.slots c with
  |some (.bool true)=>bX lf a s
  |some (.bool false)=>bX lf b s
  |_=>none
 | .block id body,s=>match bX lf body s with
  | some l=>fv (fun p=>match p with
   |(.exit i,s')=>match Nat.beq i id with
    |true=>some [(.normal,s')]
    |false=>some [(.exit i,s')]
   |r=>some [r]) l
  |none=>none
 | .loop body,s=>gu (bX lf body) lf s
 | .region rid ops draw,s=>match ops.toList,draw with
  | o ::rest,false=>match o.op,o.guard with
   | .next x false,none=>match aj s.slots x with
    | some (.ptr it 0)=>match hget s.heap it with
     | some (.miter m since seen last)=>match hget s.heap m with
      |some mp=>match ff (.miter m since seen last) mp with
       |some (p::q::t)=>gv P glob call (o::rest) rest o.dst it ⟨s.slots,s.heap,s.nx+ab (o::rest),s.n⟩ (p::q::t)
       |_=>(aN P glob call lf (.region rid ops false) s).map fun r=>[r]
      |none=>none
     |_=>none
    |_=>none
   |_,_=>(aN P glob call lf (.region rid ops false) s).map fun r=>[r]
  |_,draw=>(aN P glob call lf (.region rid ops draw) s).map fun r=>[r]
 |c,s=>(aN P glob call lf c s).map fun r=>[r]
end
def dJ (P:Program) (G:Nat→Option (List AV)) (rs:List ResultVar) (L:List Nat) (id nx:Nat) (h:aa):List (AExit × St)→Option (AV × Option (List AV) × Mods)
 |[]=>none
 | (e,s)::t=>match (match e with
   | .exit _=>none
   |_=>match bD P G s rs with
    |some l=>lookEnd L id nx h (bP l) s.heap
    |none=>none) with
  | some (v,row,[])=>match t with
   |[]=>some (v,row,[])
   | _::_=>match dJ P G rs L id nx h t with
    | some (v',row',[])=>match dp v v'&&(match row,row' with
      |none,none=>true
      |some a,some b=>bi a b
      |_,_=>false) with
     |true=>some (v,row,[])
     |false=>none
    |_=>none
  |_=>none
def ep (P:Program) (O:ar) (call:af) (d:Nat) (f:FuncId) (args:List AV) (id:Nat) (h:aa) (nx:Nat):Option (AV × aa × Nat × Foot):=
  match P.funcs[f]? with
  | some fn=>match fn.body with
    | some c=>match fn.name== "runtime.NumGoroutine" with
      |true=>none
      | false=>match Nat.ble (ab args) fn.ntmps&&Nat.ble fn.ntmps 4095 with
       |false=>none
       |true=>match bX P O.glob call O.lf c ⟨bz args 0 .tip,aD h (aB h d (aA args [])),nx,fn.ntmps⟩ with
        | some l=>match dJ P O.glob fn.results.toList (aB h d (aA args [])) id nx h l with
          |some r=>some (bW (aB h d (aA args [])) id nx h r)
          |none=>none
        |none=>none
    |none=>none
  |none=>none
def dK (P:Program) (f:FuncId) (args:List AV) (id:Nat) (h:aa) (nx:Nat):Option (AV × aa × Nat × Foot):=
 match P.funcs[f]? with
 | some fn=>match fn.body.isNone&&(fn.name== "maps.clone" &&fn.origin== "") with
  | true=>match args with
   |[.iface t (.map m)]=>match hget h m with
    |some (.mapb cl st es)=>some (.iface t (.map id),an h id (.mapb cl st es),nx,⟨false,[m],[id]⟩)
    |_=>none
   |_=>none
  |false=>none
 |none=>none
def bQ (nx:Nat) (h1:aa):aa→Mods
 |[]=>[]
 |(k,_)::t=>match Nat.blt k nx with
  |true=>bQ nx h1 t
  |false=>(k,hget h1 k)::bQ nx h1 t
def bY (h1:aa):List Nat→Mods
 |[]=>[]
 |i::t=>(i,hget h1 i)::bY h1 t
def cM:Mods→Mods→Mods
 |[],m=>m
 |p::t,m=>p::cM t m
def er (P:Program) (O:ar) (call:af) (d:Nat) (f:FuncId) (args:List AV) (h:aa) (nx:Nat):Option (AV × aa × Nat × Foot):=
  match bU P O call f args (aD h (aB h d (aA args []))) nx with
  |some (v,h1,nx')=>match Nat.ble nx nx' with
   |false=>none
   |true=>some (v,Mods.app (cM (bY h1 (aB h d (aA args []))) (bQ nx h1 h1)) h,nx',⟨true,aB h d (aA args []),nx::aB h d (aA args [])⟩)
  |none=>none
def dL (P:Program) (f:FuncId) (args:List AV) (h:aa) (nx:Nat):Option (AV × aa × Nat × Foot):=
 match P.funcs[f]? with
 | some fn=>match fn.body.isNone&&(fn.name== "internal/bytealg.abigen_runtime_cmpstring" &&fn.origin== "") with
  | true=>match args with
   | [.str a,.str b]=>some (.int .i64 (match cb a b with
    |true=> -1
    |false=>match cb b a with
     |true=>1
     |false=>0),h,nx,⟨false,[],[]⟩)
   |_=>none
  |false=>none
 |none=>none
def ap (P:Program) (O:ar):Nat→af
 |0,_,_,_,_,_=>none
 | n +1,f,args,id,h,nx=>
  match O.how f,ag args with
  | .look d,_=>em P O (ap P O n) d f args id h nx
  | .each d,_=>ep P O (ap P O n) d f args id h nx
  | .clone,_=>dK P f args id h nx
  | .part d,_=>er P O (ap P O n) d f args h nx
  | .cmp,_=>dL P f args h nx
  | .known,_=>O.cx f args id h nx
  | .pure,true=>match O.summ f args with
   |some v=>some (v,h,nx,⟨false,[],[]⟩)
   | none=>match bU P O (ap P O n) f args [] 0 with
    | some (v,h',_)=>match ah 0 h' 40 v with
     |some v'=>match ac v' with
      |true=>some (v',h,nx,⟨false,[],[]⟩)
      |false=>none
     |none=>none
    |none=>none
  | .fresh,true=>match bU P O (ap P O n) f args [] 0 with
   |some (v,h',_)=>cA h' v id h nx
   |none=>none
  | .pure,false=>match bU P O (ap P O n) f args h nx with
   |some (v,h',nx')=>match ah nx h' 40 v with
    |some v'=>some (v',cn nx h',nx',⟨true,[],[]⟩)
    |none=>none
   |none=>none
  |_,_=>match bU P O (ap P O n) f args h nx with
   |some (v,h',nx')=>some (v,h',nx',⟨true,[],[]⟩)
   |none=>none
end
end Go.Proofs.Abs
/- How trees stand for the model's values, and short heaps for its memory. -/
namespace Go.Proofs.Abs
open Go
inductive Rep (w:World) (I:Nat→Prop) (α:Nat→Option Nat):AV→Value→Prop
 |bool (b:Bool):Rep w I α (.bool b) (.bool b)
 |int (k:IntKind) (n:Int):Rep w I α (.int k n) (.int k n)
 |str (s:List UInt8) (b:ByteArray) (h:b.data.toList=s):Rep w I α (.str s) (.string b)
 |ptr (id off b:Nat) (h:α id=some b):Rep w I α (.ptr id off) (.pointer (some ⟨b,off,none⟩))
 |nilp:Rep w I α .nilp (.pointer none)
 | fptr (cs:List AV) (off b base:Nat) (g:Nat→Value) (hI:I b)
   (hg:∀j c,cs[j]? =some c→w.cell? ⟨b,base+j,none⟩=some (g j))
   (hr:∀j c,cs[j]? =some c→Rep w I α c (g j)):Rep w I α (.fptr cs off) (.pointer (some ⟨b,base+off,none⟩))
 |gptr (g off:Nat):Rep w I α (.gptr g off) (.pointer (some ⟨g,off,none⟩))
 | fsl (full:Bool) (es:List AV) (a:Option Addr) (len cap sz b base:Nat) (g:Nat→Nat→Value) (hl:es.length=len) (hc:len≤cap)
   (hf:full=true→cap=len) (ha:a=some ⟨b,base,none⟩∨(a=none∧cap=0)) (hI:es≠[]→I b)
   (hs:∀e∈es,e.cells.length=sz)
   (hg:∀i e j c,es[i]? =some e→e.cells[j]? =some c→w.cell? ⟨b,base+i*sz+j,none⟩=some (g i j))
   (hr:∀i e j c,es[i]? =some e→e.cells[j]? =some c→Rep w I α c (g i j)):Rep w I α (.fsl full es) (.slice a len cap)
 | rsl (own:Bool) (id off len sz cap b:Nat) (h:α id=some b) (hc:len≤cap)
   (ho:own=true→∃e n,w.shape? b=some (e,n)∧off+cap*sz=n):Rep w I α (.rsl own id off len sz) (.slice (some ⟨b,off,none⟩) len cap)
 |nilsl:Rep w I α .nilsl (.slice none 0 0)
 |nesl (a:Addr) (cap:Nat):Rep w I α .nesl (.slice (some a) 0 cap)
 |map (id b:Nat) (h:α id=some b):Rep w I α (.map id) (.map (some b))
 |nilmap:Rep w I α .nilmap (.map none)
 | func (fn:Fn) (a c:List AV) (a' c':Array Value) (h1:a.length=a'.size) (h2:c.length=c'.size)
   (h3:∀ (i:Nat) x y,a[i]? =some x→a'[i]? =some y→Rep w I α x y) (h4:∀ (i:Nat) x y,c[i]? =some x→c'[i]? =some y→Rep w I α x y):
   Rep w I α (.func fn a c) (.func fn a' c')
 |nilFunc:Rep w I α .nilFunc .nilFunc
 |iface (t:TypeId) (v:AV) (v':Value) (h:Rep w I α v v'):Rep w I α (.iface t v) (.iface t v')
 |nilIface:Rep w I α .nilIface .nilIface
 |agg (a:List AV) (a':Array Value) (h1:a.length=a'.size) (h2:∀ (i:Nat) x y,a[i]? =some x→a'[i]? =some y→Rep w I α x y):Rep w I α (.agg a) (.agg a')
 |tuple (a:List AV) (a':Array Value) (h1:a.length=a'.size) (h2:∀ (i:Nat) x y,a[i]? =some x→a'[i]? =some y→Rep w I α x y):Rep w I α (.tuple a) (.tuple a')
theorem gw {es:List AV} {a:Option Addr} {len cap b base:Nat} (hl:es.length=len) (hc:len≤cap) (ha:a=some ⟨b,base,none⟩∨(a=none∧cap=0)) (hne:es≠[]):a=some ⟨b,base,none⟩:=by
 rcases ha with h|⟨_,h0⟩
 ·exact h
 ·exact absurd (List.eq_nil_of_length_eq_zero (by omega)) hne
section
variable {w w':World} {I I':Nat→Prop} {α α':Nat→Option Nat}
theorem Rep.mono {a:AV} {v:Value} (h:Rep w I α a v) (hI:∀b,I b→I' b) (hα:∀id b,α id=some b→α' id=some b)
  (hc:∀b o,I b→w'.cell? ⟨b,o,none⟩=w.cell? ⟨b,o,none⟩) (hs:∀id b,α id=some b→w'.shape? b=w.shape? b):Rep w' I' α' a v:=by
 induction h with
 |bool b=>exact .bool b
 |int k n=>exact .int k n
 |str s b h=>exact .str s b h
 |ptr id off b h=>exact .ptr id off b (hα _ _ h)
 |nilp=>exact .nilp
 |fptr cs off b base g hIb hg hr ih=>exact .fptr cs off b base g (hI _ hIb) (fun j c e=>by rw[hc b _ hIb];exact hg j c e) ih
 |gptr g off=>exact .gptr g off
 |fsl full es a len cap sz b base g hl hcap hf ha hIb hsz hg hr ih=>
  refine .fsl full es a len cap sz b base g hl hcap hf ha (fun h=>hI _ (hIb h)) hsz (fun i e j c h1 h2=> ?_) ih
  have hne:es≠[]:=by intro h;simp[h] at h1
  rw[hc b _ (hIb hne)];exact hg i e j c h1 h2
 |rsl own id off len sz cap b h hcap ho=>exact .rsl own id off len sz cap b (hα _ _ h) hcap (fun he=>by rw[hs _ _ h];exact ho he)
 |nilsl=>exact .nilsl
 |nesl a cap=>exact .nesl a cap
 |map id b h=>exact .map id b (hα _ _ h)
 |nilmap=>exact .nilmap
 |func fn a c a' c' h1 h2 _ _ ih1 ih2=>exact .func fn a c a' c' h1 h2 ih1 ih2
 |nilFunc=>exact .nilFunc
 |iface t v v' _ ih=>exact .iface t v v' ih
 |nilIface=>exact .nilIface
 |agg a a' h1 _ ih=>exact .agg a a' h1 ih
 |tuple a a' h1 _ ih=>exact .tuple a a' h1 ih
end
def RepL (w:World) (I:Nat→Prop) (α:Nat→Option Nat) (a:List AV) (v:List Value):Prop:=
 a.length=v.length∧∀ (i:Nat) x y,a[i]? =some x→v[i]? =some y→Rep w I α x y
section
variable {w:World} {I:Nat→Prop} {α:Nat→Option Nat}
theorem RepL.nil:RepL w I α [] []:=⟨rfl,by simp⟩
theorem RepL.cons {x:AV} {y:Value} {a:List AV} {v:List Value} (h:Rep w I α x y) (t:RepL w I α a v):RepL w I α (x::a) (y::v):=
 ⟨by simp[t.1],fun i x' y' h1 h2=>by
  cases i with
  |zero=>simp at h1 h2;subst h1;subst h2;exact h
  |succ i=>simp at h1 h2;exact t.2 i _ _ h1 h2⟩
theorem RepL.cons_inv {x:AV} {a:List AV} {v:List Value} (h:RepL w I α (x::a) v):∃y v',v=y::v'∧Rep w I α x y∧RepL w I α a v':=by
 match v,h with
 |[],h=>simp[RepL] at h
 |y::v',h=>exact ⟨y,v',rfl,h.2 0 _ _ rfl rfl,⟨by have:=h.1;simpa using this,fun i x' y' h1 h2=>h.2 (i+1) _ _ (by simpa using h1) (by simpa using h2)⟩⟩
theorem RepL.nil_inv {v:List Value} (h:RepL w I α [] v):v=[]:=by
 exact List.eq_nil_of_length_eq_zero (by have:=h.1;simpa using this.symm)
theorem RepL.get {a:List AV} {v:List Value} (h:RepL w I α a v) {i:Nat} {x:AV} (hx:a[i]? =some x):∃y,v[i]? =some y∧Rep w I α x y:=by
 have hi:i<a.length:=by
  rcases Nat.lt_or_ge i a.length with h'|h'
  ·exact h'
  ·simp[List.getElem?_eq_none h'] at hx
 have hi':i<v.length:=by rw[←h.1];exact hi
 exact ⟨v[i],by simp,h.2 i _ _ hx (by simp)⟩
theorem RepL.append {a c:List AV} {v u:List Value} (h:RepL w I α a v) (h':RepL w I α c u):RepL w I α (a++c) (v++u):=by
 refine ⟨by simp[h.1,h'.1],fun i x y h1 h2=> ?_⟩
 by_cases hi:i<a.length
 ·rw[List.getElem?_append_left hi] at h1
  rw[List.getElem?_append_left (by rw[←h.1];exact hi)] at h2
  exact h.2 i _ _ h1 h2
 ·have hi:=Nat.le_of_not_lt hi
  rw[List.getElem?_append_right hi] at h1
  rw[List.getElem?_append_right (by rw[←h.1];exact hi)] at h2
  rw[←h.1] at h2
  exact h'.2 _ _ _ h1 h2
theorem Rep.agg_iff {a:List AV} {v:Value}:Rep w I α (.agg a) v↔∃a',v= .agg a'∧RepL w I α a a'.toList:=by
 constructor
 ·intro h
  cases h with
  |agg _ a' h1 h2=>exact ⟨a',rfl,by simpa using h1,fun i x y e1 e2=>h2 i x y e1 (by simpa using e2)⟩
 ·rintro ⟨a',rfl,h1,h2⟩
  exact .agg a a' (by simpa using h1) (fun i x y e1 e2=>h2 i x y e1 (by simpa using e2))
theorem Rep.tuple_iff {a:List AV} {v:Value}:Rep w I α (.tuple a) v↔∃a',v= .tuple a'∧RepL w I α a a'.toList:=by
 constructor
 ·intro h
  cases h with
  |tuple _ a' h1 h2=>exact ⟨a',rfl,by simpa using h1,fun i x y e1 e2=>h2 i x y e1 (by simpa using e2)⟩
 ·rintro ⟨a',rfl,h1,h2⟩
  exact .tuple a a' (by simpa using h1) (fun i x y e1 e2=>h2 i x y e1 (by simpa using e2))
theorem Rep.func_iff {fn:Fn} {a c:List AV} {v:Value}:Rep w I α (.func fn a c) v↔∃a' c',v= .func fn a' c'∧RepL w I α a a'.toList∧RepL w I α c c'.toList:=by
 constructor
 ·intro h
  cases h with
  |func _ _ _ a' c' h1 h2 h3 h4=>exact ⟨a',c',rfl,⟨by simpa using h1,fun i x y e1 e2=>h3 i x y e1 (by simpa using e2)⟩,⟨by simpa using h2,fun i x y e1 e2=>h4 i x y e1 (by simpa using e2)⟩⟩
 ·rintro ⟨a',c',rfl,⟨h1,h2⟩,⟨h3,h4⟩⟩
  exact .func fn a c a' c' (by simpa using h1) (by simpa using h3) (fun i x y e1 e2=>h2 i x y e1 (by simpa using e2)) (fun i x y e1 e2=>h4 i x y e1 (by simpa using e2))
theorem Rep.cells {a:AV} {v:Value} (h:Rep w I α a v):RepL w I α a.cells v.cells.toList:=by
 cases h with
 |agg a a' h1 h2=>exact ⟨by simpa [AV.cells,Value.cells] using h1,fun i x y e1 e2=>h2 i x y (by simpa [AV.cells] using e1) (by simpa [Value.cells] using e2)⟩
 |_=>exact .cons (by constructor<;>assumption) .nil
theorem Rep.one {a:AV} {v:Value} (h:Rep w I α a v) (ho:a.one=true):v.oneCell'=true:=by
 cases h<;>simp_all [AV.one,Value.oneCell']
end
def BRel (w:World) (I:Nat→Prop) (α:Nat→Option Nat) (b:Nat):Blk→Prop
 | .cells l=>∃c e,w.heap[b]? =some (.cells c e (0,0))∧l.length≤c.size∧RepL w I α l (c.toList.take l.length)
 | .siter s pos=>∃bs,w.heap[b]? =some (.stringIter bs pos)∧bs.data.toList=s
 | .mapb clock st es=>∃en,w.heap[b]? =some (.map en clock)∧es.length=en.size∧st=en.toList.map (·.born)∧
   ∀ (i:Nat) x y,es[i]? =some x→en[i]? =some y→Rep w I α x.1 y.key∧Rep w I α x.2 y.val
 | .miter m since seen last=>∃mb,α m=some mb∧w.heap[b]? =some (.mapIter (some mb) since seen.toArray last)
abbrev ae:=Nat→Option (List AV)
structure Rel (G:ae) (w:World) (I:Nat→Prop) (α:Nat→Option Nat) (H:aa):Prop where
 live:∀id blk,hget H id=some blk→∃b,α id=some b∧¬I b∧BRel w I α b blk
 inj:∀id id' b,hget H id≠none→hget H id'≠none→α id=some b→α id'=some b→id=id'
 imm:∀b,I b→b<w.heap.size
 dom:∀id b,α id=some b→b<w.heap.size
 glob:∀g l,G g=some l→I g∧∀ (j:Nat) x,l[j]? =some x→∃y,w.cell? ⟨g,j,none⟩=some y∧Rep w I α x y
def aK (α:Nat→Option Nat) (H:aa) (b:Nat):Prop:=∃id,hget H id≠none∧α id=some b
def SameOs (w w':World):Prop:=w'.os=w.os∧w'.tape=w.tape∧w'.output=w.output
theorem SameOs.refl (w:World):SameOs w w:=⟨rfl,rfl,rfl⟩
theorem SameOs.trans {w w' w'':World} (h:SameOs w w') (h':SameOs w' w''):SameOs w w'':=⟨h'.1.trans h.1,h'.2.1.trans h.2.1,h'.2.2.trans h.2.2⟩
structure Ev (w:World) (I:Nat→Prop) (α:Nat→Option Nat) (H:aa) (w':World) (I':Nat→Prop) (α':Nat→Option Nat) (H':aa):Prop where
 os:SameOs w w'
 I_mono:∀b,I b→I' b
 α_mono:∀id b,α id=some b→α' id=some b
 size:w.heap.size≤w'.heap.size
 frame:∀b,b<w.heap.size→¬aK α H b→w'.heap[b]? =w.heap[b]?
 shape:∀b,b<w.heap.size→w'.shape? b=w.shape? b
 Inew:∀b,I' b→I b∨w.heap.size≤b∨aK α H b
 own:∀b,aK α' H' b→w.heap.size≤b∨aK α H b
section
variable {G:ae} {w w' w'':World} {I I' I'':Nat→Prop} {α α' α'':Nat→Option Nat} {H H' H'':aa}
theorem Ev.refl:Ev w I α H w I α H:=⟨.refl _,fun _ h=>h,fun _ _ h=>h,Nat.le_refl _,fun _ _ _=>rfl,fun _ _=>rfl,fun _ h=> .inl h,fun _ h=> .inr h⟩
theorem Ev.trans (h1:Ev w I α H w' I' α' H') (h2:Ev w' I' α' H' w'' I'' α'' H''):Ev w I α H w'' I'' α'' H'' where
 os:=h1.os.trans h2.os
 I_mono b h:=h2.I_mono b (h1.I_mono b h)
 α_mono id b h:=h2.α_mono id b (h1.α_mono id b h)
 size:=Nat.le_trans h1.size h2.size
 frame b hb ho:=by
  rw[h2.frame b (Nat.lt_of_lt_of_le hb h1.size) (fun h=>by
   rcases h1.own b h with h|h
   ·omega
   ·exact ho h),h1.frame b hb ho]
 shape b hb:=by rw[h2.shape b (Nat.lt_of_lt_of_le hb h1.size),h1.shape b hb]
 Inew b h:=by
  rcases h2.Inew b h with h|h|h
  ·exact h1.Inew b h
  ·exact .inr (.inl (Nat.le_trans h1.size h))
  ·exact .inr (h1.own b h)
 own b h:=by
  rcases h2.own b h with h|h
  ·exact .inl (Nat.le_trans h1.size h)
  ·exact h1.own b h
theorem Rel.not_owned (r:Rel G w I α H) {b:Nat} (h:I b):¬aK α H b:=by
 rintro ⟨id,h1,h2⟩
 cases hb:hget H id with
 |none=>exact h1 hb
 |some blk=>
  obtain ⟨b',e,hI,_⟩:=r.live id blk hb
  rw[h2] at e;cases e
  exact hI h
theorem Ev.cell (ev:Ev w I α H w' I' α' H') (r:Rel G w I α H) {b:Nat} (o:Nat) (h:I b):w'.cell? ⟨b,o,none⟩=w.cell? ⟨b,o,none⟩:=by
 have:=ev.frame b (r.imm b h) (r.not_owned h)
 simp[World.cell?,this]
theorem Rep.ev {a:AV} {v:Value} (h:Rep w I α a v) (r:Rel G w I α H) (ev:Ev w I α H w' I' α' H'):Rep w' I' α' a v:=
 h.mono ev.I_mono ev.α_mono (fun _ o hb=>ev.cell r o hb) (fun id b hb=>ev.shape b (r.dom id b hb))
theorem RepL.ev {a:List AV} {v:List Value} (h:RepL w I α a v) (r:Rel G w I α H) (ev:Ev w I α H w' I' α' H'):RepL w' I' α' a v:=
 ⟨h.1,fun i x y h1 h2=>(h.2 i x y h1 h2).ev r ev⟩
theorem BRel.ev {b:Nat} {blk:Blk} (h:BRel w I α b blk) (r:Rel G w I α H) (ev:Ev w I α H w' I' α' H') (hb:w'.heap[b]? =w.heap[b]?):BRel w' I' α' b blk:=by
 cases blk with
 |cells l=>obtain ⟨c,e,h1,h2,h3⟩:=h;exact ⟨c,e,by rw[hb,h1],h2,h3.ev r ev⟩
 |siter s pos=>obtain ⟨bs,h1,h2⟩:=h;exact ⟨bs,by rw[hb,h1],h2⟩
 |mapb cl st es=>obtain ⟨en,h1,h2,h4,h3⟩:=h;exact ⟨en,by rw[hb,h1],h2,h4,fun i x y e1 e2=>⟨(h3 i x y e1 e2).1.ev r ev,(h3 i x y e1 e2).2.ev r ev⟩⟩
 |miter m since seen last=>obtain ⟨mb,h1,h2⟩:=h;exact ⟨mb,ev.α_mono m mb h1,by rw[hb,h2]⟩
theorem cN (r:Rel G w I α H) (ev:Ev w I α H w' I' α' H'):∀g l,G g=some l→I' g∧∀ (j:Nat) x,l[j]? =some x→∃y,w'.cell? ⟨g,j,none⟩=some y∧Rep w' I' α' x y:=by
 intro g l hg
 obtain ⟨h1,h2⟩:=r.glob g l hg
 refine ⟨ev.I_mono g h1,fun j x hx=> ?_⟩
 obtain ⟨y,e,hy⟩:=h2 j x hx
 exact ⟨y,by rw[ev.cell r j h1,e],hy.ev r ev⟩
end
theorem beq_iff {a b:Nat}:Nat.beq a b=true↔a=b:=by simp
theorem beq_false_iff {a b:Nat}:Nat.beq a b=false↔a≠b:=by
 rw[←Bool.not_eq_true,beq_iff]
theorem eu (i:Nat) (b:Option Blk) (t:aa):hget ((i,b)::t) i=b:=by simp[hget]
theorem cO {i j:Nat} (b:Option Blk) (t:aa) (h:i≠j):hget ((i,b)::t) j=hget t j:=by
 have:Nat.beq i j=false:=beq_false_iff.2 h
 simp only[hget,this]
theorem blt_iff {a b:Nat}:Nat.blt a b=true↔a<b:=by simp
theorem gx {a b:Nat} (h:Nat.blt a b=false):¬a<b:=fun hlt=>by
 rw[blt_iff.2 hlt] at h;cases h
theorem iA {a b:Nat} (h:¬a<b):Nat.blt a b=false:=by
 cases hh:Nat.blt a b with
 |false=>rfl
 |true=>exact absurd (blt_iff.1 hh) h
theorem bE {k i:Nat} (d b:Option Blk) (t:aa) (h:k<i):aM ((k,d)::t) i b=(i,b)::(k,d)::t:=by
 simp only[aM,beq_false_iff.2 (Nat.ne_of_lt h),blt_iff.2 h]
theorem da (i:Nat) (d b:Option Blk) (t:aa):aM ((i,d)::t) i b=(i,b)::t:=by
 simp[aM]
theorem bm {k i:Nat} (d b:Option Blk) (t:aa) (h:i<k):aM ((k,d)::t) i b=(k,d)::aM t i b:=by
 simp only[aM,beq_false_iff.2 (Nat.ne_of_gt h),iA (Nat.not_lt.2 (Nat.le_of_lt h))]
theorem iB (H:aa) (id:Nat) (b:Option Blk):hget (aM H id b) id=b:=by
 induction H with
 |nil=>exact eu id b []
 |cons p t ih=>
  obtain ⟨i,c⟩:=p
  rcases Nat.lt_trichotomy i id with h|h|h
  ·rw[bE _ _ _ h];exact eu _ _ _
  ·subst h;rw[da];exact eu _ _ _
  ·rw[bm _ _ _ h,cO _ _ (by omega),ih]
theorem gy (H:aa) {id id':Nat} (b:Option Blk) (h:id'≠id):hget (aM H id b) id'=hget H id':=by
 induction H with
 |nil=>exact cO _ _ (Ne.symm h)
 | cons p t ih=>
  obtain ⟨i,c⟩:=p
  rcases Nat.lt_trichotomy i id with h1|h1|h1
  ·rw[bE _ _ _ h1,cO _ _ (Ne.symm h)]
  ·subst h1;rw[da,cO _ _ (Ne.symm h),cO _ _ (Ne.symm h)]
  ·rw[bm _ _ _ h1]
   by_cases hi:i=id'
   ·subst hi;rw[eu,eu]
   ·rw[cO _ _ hi,cO _ _ hi,ih]
theorem qe (H:aa) {i j:Nat} (b c:Option Blk) (h:i≠j):aM (aM H i b) j c=aM (aM H j c) i b:=by
 induction H with
 | nil=>
  rcases Nat.lt_or_gt_of_ne h with h1|h1
  ·show aM [(i,b)] j c=aM [(j,c)] i b
   rw[bE _ _ _ h1,bm _ _ _ h1];rfl
  ·show aM [(i,b)] j c=aM [(j,c)] i b
   rw[bm _ _ _ h1,bE _ _ _ h1];rfl
 | cons p t ih=>
  obtain ⟨k,d⟩:=p
  rcases Nat.lt_trichotomy k i with h1|h1|h1<;>rcases Nat.lt_trichotomy k j with h2|h2|h2
  ·rw[bE _ _ _ h1,bE _ _ _ h2]
   rcases Nat.lt_or_gt_of_ne h with h3|h3
   ·rw[bE _ _ _ h3,bm _ _ _ h3,bE _ _ _ h1]
   ·rw[bm _ _ _ h3,bE _ _ _ h3,bE _ _ _ h2]
  ·subst h2
   rw[bE _ _ _ h1,da,bm _ _ _ h1,da,bE _ _ _ h1]
  ·rw[bE _ _ _ h1,bm _ _ _ h2,bm _ _ _ (by omega),bm _ _ _ h2,bE _ _ _ h1]
  ·subst h1
   rw[da,bE _ _ _ h2,bE _ _ _ h2,bm _ _ _ h2,da]
  ·omega
  ·subst h1
   rw[da,bm _ _ _ h2,bm _ _ _ h2,da]
  ·rw[bm _ _ _ h1,bE _ _ _ h2,bE _ _ _ h2,bm _ _ _ (by omega),bm _ _ _ h1]
  ·subst h2
   rw[bm _ _ _ h1,da,da,bm _ _ _ h1]
  ·rw[bm _ _ _ h1,bm _ _ _ h2,bm _ _ _ h2,bm _ _ _ h1,ih]
theorem gz (H:aa) (id:Nat) (b:Blk):hget (an H id b) id=some b:=iB H id (some b)
theorem bd (H:aa) {id id':Nat} (b:Blk) (h:id'≠id):hget (an H id b) id'=hget H id':=gy H (some b) h
theorem co (H:aa) (id:Nat):hget (ao H id) id=none:=iB H id none
theorem bZ (H:aa) {id id':Nat} (h:id'≠id):hget (ao H id) id'=hget H id':=gy H none h
theorem na (n:Nat) (H:aa) (id:Nat):hget (cn n H) id=if id<n then hget H id else none:=by
 induction H with
 |nil=>simp[cn,hget]
 | cons p t ih=>
  obtain ⟨i,c⟩:=p
  simp only[cn]
  split
  ·rename_i h1
   have hi:i<n:=by simpa using h1
   by_cases e:i=id
   ·subst e;rw[eu,eu,if_pos hi]
   ·rw[cO _ _ e,cO _ _ e,ih]
  ·rename_i h1
   have hi:¬i<n:=by
    have:¬ (Nat.blt i n=true):=by rw[h1];simp
    simpa using this
   rw[ih]
   by_cases e:i=id
   ·subst e;rw[if_neg hi,if_neg hi]
   ·rw[cO _ _ e]
end Go.Proofs.Abs
/- What an effect of the short heap means for the model's memory. -/
namespace Go.Proofs.Abs
open Go
def bL (P:Program) (Q:Value→World→Prop):Result Next→Prop
 | .ok (.value v) w=>Q v w
 | .ok .skip w=>Q undef w
 | .ok (.enter f args) w=>Calls P f args w fun e w'=>∃v,e= .returned v∧Q v w'
 |_=>False
theorem nb {P:Program} {o:Oper} {a:Act} {w:World} {R:Value→World→Prop} {next:Act→World→Prop} {Q:Exit→Act→World→Prop}
    (h:bL P R ((execOp a.eval o).run P w)) (hn:∀v w',R v w'→next (a.put o.dst v) w'):o.wp P a w next Q:=by
  unfold Oper.wp
  generalize (execOp a.eval o).run P w=r at*
  cases r with
  |halt x w'=>exact h.elim
  | ok n w'=>
    cases n<;>first
      |exact hn _ _ h
      |exact h.elim
      | (refine Calls.mono h ?_
         rintro e w'' ⟨v,rfl,hv⟩
         exact hn _ _ hv)
structure Post (G:ae) (w:World) (I:Nat→Prop) (α:Nat→Option Nat) (H:aa) (rid nx:Nat) (av:AV) (H':aa) (nx':Nat) (v:Value) (w':World):Prop where
 ex:∃I' α',Ev w I α H w' I' α' H'∧Rel G w' I' α' H'∧Rep w' I' α' av v∧(∀id,α' id≠none→α id≠none∨id=rid∨(nx≤id∧id<nx'))
 le:nx≤nx'
def ax (P:Program) (G:ae) (call:af):Prop:=
 ∀ f args rid H nx v H' nx' ft,call f args rid H nx=some (v,H',nx',ft)→
  ∀w I α (vs:Array Value),Rel G w I α H→RepL w I α args vs.toList→α rid=none→rid<nx→(∀id,nx≤id→α id=none)→
   bL P (Post G w I α H rid nx v H' nx') ((callFunc f vs).run P w)
structure Ctx (P:Program) (G:ae) (call:af) (w:World) (I:Nat→Prop) (α:Nat→Option Nat) (H:aa) (rid nx:Nat):Prop where
 rel:Rel G w I α H
 hrid:α rid=none
 lt:rid<nx
 fresh:∀id,nx≤id→α id=none
 call:ax P G call
def be (P:Program) (G:ae) (call:af) (w:World) (I:Nat→Prop) (α:Nat→Option Nat) (H:aa) (rid nx:Nat) (m:Result Next) (e:Eff):Prop:=
 ∀d v H' nx' ft,ai call rid d e H nx=some (v,H',nx',ft)→bL P (Post G w I α H rid nx v H' nx') m
def upd (α:Nat→Option Nat) (id b:Nat):Nat→Option Nat:=fun i=>if i=id then some b else α i
theorem a8 (α:Nat→Option Nat) (id b:Nat):upd α id b id=some b:=by simp[upd]
theorem aL (α:Nat→Option Nat) {id i:Nat} (b:Nat) (h:i≠id):upd α id b i=α i:=by simp[upd,h]
section
variable {P:Program} {G:ae} {call:af} {w:World} {I:Nat→Prop} {α:Nat→Option Nat} {H:aa} {rid nx:Nat}
theorem nc {v:AV} {v':Value} (r:Rel G w I α H) (h:Rep w I α v v'):Post G w I α H rid nx v H nx v' w:=
 ⟨⟨I,α,.refl,r,h,fun _ h=> .inl h⟩,Nat.le_refl _⟩
theorem ce {m:Result Next} {v:AV} {v':Value} (c:Ctx P G call w I α H rid nx) (hm:m= .ok (.value v') w) (h:Rep w I α v v'):
  be P G call w I α H rid nx m (.val v):=by
 intro d u H' nx' ft he
 cases d<;>(simp only[ai,Option.some.injEq,Prod.mk.injEq] at he;obtain ⟨rfl,rfl,rfl,rfl⟩:=he;rw[hm];exact nc c.rel h)
theorem cC {m:Result Next} {id:Nat} {k:Blk→Option Eff} (c:Ctx P G call w I α H rid nx)
  (h:∀blk b e,hget H id=some blk→α id=some b→BRel w I α b blk→k blk=some e→be P G call w I α H rid nx m e):
  be P G call w I α H rid nx m (.read id k):=by
 intro d u H' nx' ft he
 cases d with
 |zero=>simp[ai] at he
 | succ d=>
  simp only[ai] at he
  split at he
  ·rename_i blk hb
   split at he
   ·rename_i e hk
    split at he
    ·rename_i v h' n' f' hr
     simp only[Option.some.injEq,Prod.mk.injEq] at he
     obtain ⟨rfl,rfl,rfl,rfl⟩:=he
     obtain ⟨b,hα,_,hB⟩:=c.rel.live id blk hb
     exact h blk b e hb hα hB hk d _ _ _ _ hr
    ·simp at he
   ·simp at he
  ·simp at he
theorem jX {m:Result Next} {f:FuncId} {args:List AV} {vs:Array Value} (c:Ctx P G call w I α H rid nx)
  (hm:m=(callFunc f vs).run P w) (h:RepL w I α args vs.toList):be P G call w I α H rid nx m (.call f args):=by
 intro d u H' nx' ft he
 have:call f args rid H nx=some (u,H',nx',ft):=by cases d<;>simpa [ai] using he
 rw[hm]
 exact c.call f args rid H nx u H' nx' ft this w I α vs c.rel h c.hrid c.lt c.fresh
theorem iC {w':World} (h:w'.heap=w.heap) (hos:SameOs w w':=by first|assumption|exact ⟨rfl,rfl,rfl⟩):Ev w I α H w' I α H:=
 ⟨hos,fun _ h=>h,fun _ _ h=>h,by rw[h];exact Nat.le_refl _,fun _ _ _=>by rw[h],fun _ _=>by simp[World.shape?,h],fun _ h=> .inl h,fun _ h=> .inr h⟩
theorem qf {w':World} (h:w'.heap=w.heap) (r:Rel G w I α H) (hos:SameOs w w':=by first|assumption|exact ⟨rfl,rfl,rfl⟩):Rel G w' I α H where
 live id blk hb:=by
  obtain ⟨b,h1,h2,h3⟩:=r.live id blk hb
  exact ⟨b,h1,h2,h3.ev r (iC h) (by rw[h])⟩
 inj:=r.inj
 imm b hb:=by rw[h];exact r.imm b hb
 dom id b hb:=by rw[h];exact r.dom id b hb
 glob:=cN r (iC h)
theorem iD {w':World} {o:Obj} (h:w'.heap=w.heap.push o) {b:Nat} (hb:b<w.heap.size):w'.heap[b]? =w.heap[b]? :=by
 rw[h,Array.getElem?_push];simp[Nat.ne_of_lt hb]
theorem nd {w':World} {o:Obj} (h:w'.heap=w.heap.push o):w'.heap[w.heap.size]? =some o:=by
 rw[h];simp
theorem db {w':World} {o:Obj} (h:w'.heap=w.heap.push o) (I':Nat→Prop) (hI:∀b,I b→I' b) (hN:∀b,I' b→I b∨b=w.heap.size) (hos:SameOs w w':=by first|assumption|exact ⟨rfl,rfl,rfl⟩):Ev w I α H w' I' α H:=
 ⟨hos,hI,fun _ _ h=>h,by rw[h];simp,fun b hb _=>iD h hb,fun b hb=>by simp[World.shape?,iD h hb],fun b hb=>by
  rcases hN b hb with h'|h'
  ·exact .inl h'
  ·exact .inr (.inl (Nat.le_of_eq h'.symm)),fun b hb=> .inr hb⟩
theorem nf {w':World} {o:Obj} (h:w'.heap=w.heap.push o) (I':Nat→Prop) (hI:∀b,I b→I' b) (hN:∀b,I' b→I b∨b=w.heap.size) (r:Rel G w I α H) (hos:SameOs w w':=by first|assumption|exact ⟨rfl,rfl,rfl⟩):Rel G w' I' α H where
 live id blk hb:=by
  obtain ⟨b,h1,h2,h3⟩:=r.live id blk hb
  have hlt:=r.dom id b h1
  refine ⟨b,h1,fun hb'=> ?_,h3.ev r (db h I' hI hN) (iD h hlt)⟩
  rcases hN b hb' with h'|h'
  ·exact h2 h'
  ·omega
 inj:=r.inj
 imm b hb:=by
  rw[h];simp
  rcases hN b hb with h'|h'
  ·have:=r.imm b h';omega
  ·omega
 dom id b hb:=by rw[h];simp;have:=r.dom id b hb;omega
 glob:=cN r (db h I' hI hN)
theorem jY {w':World} {o:Obj} {blk:Blk} {v:AV} {v':Value} (c:Ctx P G call w I α H rid nx) (h:w'.heap=w.heap.push o)
  (hB:∀α',(∀id b,α id=some b→α' id=some b)→Rel G w' I α' H→BRel w' I α' w.heap.size blk)
  (hv:∀α',α' rid=some w.heap.size→Rep w' I α' v v') (hos:SameOs w w':=by first|assumption|exact ⟨rfl,rfl,rfl⟩):Post G w I α H rid nx v (an H rid blk) nx v' w':=by
 have hm:∀id b,α id=some b→upd α rid w.heap.size id=some b:=fun id b hb=>by
  rw[aL];exact hb
  intro e;subst e;rw[c.hrid] at hb;cases hb
 have hrid:hget H rid=none:=by
  cases hh:hget H rid with
  |none=>rfl
  |some blk=>obtain ⟨b,h1,_⟩:=c.rel.live rid blk hh;rw[c.hrid] at h1;cases h1
 have ev0:Ev w I α H w' I (upd α rid w.heap.size) H:=by
  have:=db (α:=α) (H:=H) h I (fun _ h=>h) (fun _ h=> .inl h)
  refine ⟨this.os,this.I_mono,hm,this.size,this.frame,this.shape,this.Inew,fun b hb=> ?_⟩
  obtain ⟨id,h1,h2⟩:=hb
  by_cases e:id=rid
  ·subst e;rw[hrid] at h1;exact absurd rfl h1
  ·rw[aL _ _ e] at h2;exact .inr ⟨id,h1,h2⟩
 have ev:Ev w I α H w' I (upd α rid w.heap.size) (an H rid blk):=by
  refine ⟨ev0.os,ev0.I_mono,ev0.α_mono,ev0.size,ev0.frame,ev0.shape,ev0.Inew,fun b hb=> ?_⟩
  obtain ⟨id,h1,h2⟩:=hb
  by_cases e:id=rid
  ·subst e;rw[a8] at h2;cases h2;exact .inl (Nat.le_refl _)
  ·rw[bd _ _ e] at h1;rw[aL _ _ e] at h2;exact .inr ⟨id,h1,h2⟩
 have rel0:Rel G w' I (upd α rid w.heap.size) H:=
  {live:=fun id blk hb=>by
    obtain ⟨b,h1,h2,h3⟩:=c.rel.live id blk hb
    exact ⟨b,hm _ _ h1,h2,h3.ev c.rel ev0 (iD h (c.rel.dom id b h1))⟩
   inj:=fun id id' b h1 h2 h3 h4=>by
    have e1:id≠rid:=fun e=>by subst e;exact h1 hrid
    have e2:id'≠rid:=fun e=>by subst e;exact h2 hrid
    rw[aL _ _ e1] at h3;rw[aL _ _ e2] at h4
    exact c.rel.inj id id' b h1 h2 h3 h4
   imm:=fun b hb=>by rw[h];simp;have:=c.rel.imm b hb;omega
   dom:=fun id b hb=>by
    rw[h];simp
    by_cases e:id=rid
    ·subst e;rw[a8] at hb;cases hb;omega
    ·rw[aL _ _ e] at hb;have:=c.rel.dom id b hb;omega
   glob:=cN c.rel ev0}
 have rel:Rel G w' I (upd α rid w.heap.size) (an H rid blk):=
  {live:=fun id blk' hb=>by
    by_cases e:id=rid
    ·subst e;rw[gz] at hb;cases hb
     exact ⟨_,a8 _ _ _,fun hI=>by have:=c.rel.imm _ hI;omega,hB _ hm rel0⟩
    ·rw[bd _ _ e] at hb;exact rel0.live id blk' hb
   inj:=fun id id' b h1 h2 h3 h4=>by
    by_cases e1:id=rid
    ·subst e1;rw[a8] at h3;cases h3
     by_cases e2:id'=id
     ·exact e2.symm
     ·rw[aL _ _ e2] at h4;have:=c.rel.dom _ _ h4;omega
    ·rw[aL _ _ e1] at h3
     by_cases e2:id'=rid
     ·subst e2;rw[a8] at h4;cases h4;have:=c.rel.dom _ _ h3;omega
     ·rw[aL _ _ e2] at h4
      rw[bd _ _ e1] at h1;rw[bd _ _ e2] at h2
      exact c.rel.inj id id' b h1 h2 h3 h4
   imm:=rel0.imm
   dom:=rel0.dom
   glob:=rel0.glob}
 refine ⟨⟨I,upd α rid w.heap.size,ev,rel,hv _ (a8 _ _ _),fun id hid=> ?_⟩,Nat.le_refl _⟩
 by_cases e:id=rid
 ·exact .inr (.inl e)
 ·rw[aL _ _ e] at hid;exact .inl hid
theorem gA {m:Result Next} {w':World} {o:Obj} {blk:Blk} {k:Nat→AV} {v':Value} (c:Ctx P G call w I α H rid nx) (hm:m= .ok (.value v') w') (h:w'.heap=w.heap.push o)
  (hB:∀α',(∀id b,α id=some b→α' id=some b)→Rel G w' I α' H→BRel w' I α' w.heap.size blk)
  (hv:∀α',α' rid=some w.heap.size→Rep w' I α' (k rid) v') (hos:SameOs w w':=by first|assumption|exact ⟨rfl,rfl,rfl⟩):be P G call w I α H rid nx m (.new blk k):=by
 intro d u H' nx' ft he
 have:u=k rid∧H'=an H rid blk∧nx'=nx:=by cases d<;>(simp only[ai,Option.some.injEq,Prod.mk.injEq] at he;obtain ⟨rfl,rfl,rfl,_⟩:=he;exact ⟨rfl,rfl,rfl⟩)
 obtain ⟨rfl,rfl,rfl⟩:=this
 rw[hm]
 exact jY c h hB hv
theorem jZ {m:Result Next} {w':World} {o:Obj} {v:AV} {v':Value} (c:Ctx P G call w I α H rid nx) (hm:m= .ok (.value v') w') (h:w'.heap=w.heap.push o)
  (hv:∀I',(∀b,I b→I' b)→I' w.heap.size→Rel G w' I' α H→Ev w I α H w' I' α H→Rep w' I' α v v') (hos:SameOs w w':=by first|assumption|exact ⟨rfl,rfl,rfl⟩):be P G call w I α H rid nx m (.val v):=by
 intro d u H' nx' ft he
 have:u=v∧H'=H∧nx'=nx:=by cases d<;>(simp only[ai,Option.some.injEq,Prod.mk.injEq] at he;obtain ⟨rfl,rfl,rfl,_⟩:=he;exact ⟨rfl,rfl,rfl⟩)
 obtain ⟨rfl,rfl,rfl⟩:=this
 rw[hm]
 have hI:∀b,I b→(fun b=>I b∨b=w.heap.size) b:=fun b h=> .inl h
 exact ⟨⟨fun b=>I b∨b=w.heap.size,α,db h _ hI (fun _ h=>h),nf h _ hI (fun _ h=>h) c.rel,hv _ hI (.inr rfl) (nf h _ hI (fun _ h=>h) c.rel) (db h _ hI (fun _ h=>h)),fun _ h=> .inl h⟩,Nat.le_refl _⟩
theorem ng {w':World} {id b:Nat} {blk:Blk} (c:Ctx P G call w I α H rid nx) (hg:hget H id=some blk) (hα:α id=some b)
    (hs:w'.heap.size=w.heap.size) (ho:∀k,k≠b→w'.heap[k]? =w.heap[k]?) (hsh:w'.shape? b=w.shape? b) (hos:SameOs w w':=by first|assumption|exact ⟨rfl,rfl,rfl⟩):
    Rel G w' I α (ao H id)∧Ev w I α H w' I α (ao H id):=by
  have evd:Ev w I α H w' I α (ao H id):=
    ⟨hos,fun _ h=>h,fun _ _ h=>h,by omega,fun k _ hk=>ho k (fun e=>hk ⟨id,by rw[hg];simp,e▸hα⟩),fun k _=>by
      by_cases e:k=b
      · rw[e,hsh]
      · simp[World.shape?,ho k e],fun _ h=> .inl h,fun k hk=>by
      obtain ⟨i,h1,h2⟩:=hk
      by_cases e:i=id
      · subst e;rw[co] at h1;exact absurd rfl h1
      · rw[bZ _ e] at h1;exact .inr ⟨i,h1,h2⟩⟩
  have hother:∀i blk0,i≠id→hget H i=some blk0→∃k,α i=some k∧¬I k∧BRel w' I α k blk0∧k≠b:=fun i blk0 hne hi=>by
    obtain ⟨k,h1,h2,h3⟩:=c.rel.live i blk0 hi
    have hkb:k≠b:=fun e=>hne (c.rel.inj i id b (by rw[hi];simp) (by rw[hg];simp) (e▸h1) hα)
    exact ⟨k,h1,h2,h3.ev c.rel evd (ho k hkb),hkb⟩
  exact ⟨{ live :=fun i blk0 hi=>by
            by_cases e:i=id
            · subst e;rw[co] at hi;cases hi
            · rw[bZ _ e] at hi
              obtain ⟨k,h1,h2,h3,_⟩:=hother i blk0 e hi
              exact ⟨k,h1,h2,h3⟩
           inj:=fun i j k h1 h2 h3 h4=>by
            by_cases e:i=id
            · subst e;rw[co] at h1;exact absurd rfl h1
            · by_cases e':j=id
              · subst e';rw[co] at h2;exact absurd rfl h2
              · rw[bZ _ e] at h1;rw[bZ _ e'] at h2
                exact c.rel.inj i j k h1 h2 h3 h4
           imm:=fun k hk=>by rw[hs];exact c.rel.imm k hk
           dom:=fun i k hk=>by rw[hs];exact c.rel.dom i k hk
           glob:=cN c.rel evd},evd⟩
theorem nh {w':World} {id b:Nat} {blk blk':Blk} (c:Ctx P G call w I α H rid nx) (hg:hget H id=some blk) (hα:α id=some b)
  (hs:w'.heap.size=w.heap.size) (ho:∀k,k≠b→w'.heap[k]? =w.heap[k]?) (hsh:w'.shape? b=w.shape? b)
  (hB:Rel G w' I α (ao H id)→Ev w I α H w' I α (ao H id)→BRel w' I α b blk') (hos:SameOs w w':=by first|assumption|exact ⟨rfl,rfl,rfl⟩):Ev w I α H w' I α (an H id blk')∧Rel G w' I α (an H id blk')∧Rel G w' I α (ao H id)∧Ev w I α H w' I α (ao H id):=by
 obtain ⟨reld,evd⟩:=ng c hg hα hs ho hsh
 have hnI:¬I b:=by
  obtain ⟨b',h1,h2,_⟩:=c.rel.live id blk hg
  rw[hα] at h1;cases h1;exact h2
 have rel:Rel G w' I α (an H id blk'):=
  {live:=fun i blk0 hi=>by
    by_cases e:i=id
    ·subst e;rw[gz] at hi;cases hi;exact ⟨b,hα,hnI,hB reld evd⟩
    ·rw[bd _ _ e] at hi
     exact reld.live i blk0 (by rw[bZ _ e];exact hi)
   inj:=fun i j k h1 h2 h3 h4=>by
    refine c.rel.inj i j k ?_ ?_ h3 h4
    ·by_cases e:i=id
     ·subst e;rw[hg];simp
     ·rw[bd _ _ e] at h1;exact h1
    ·by_cases e:j=id
     ·subst e;rw[hg];simp
     ·rw[bd _ _ e] at h2;exact h2
   imm:=reld.imm
   dom:=reld.dom
   glob:=reld.glob}
 have ev:Ev w I α H w' I α (an H id blk'):=
  ⟨evd.os,evd.I_mono,evd.α_mono,evd.size,evd.frame,evd.shape,evd.Inew,fun k hk=>by
   obtain ⟨i,h1,h2⟩:=hk
   by_cases e:i=id
   ·subst e;exact .inr ⟨i,by rw[hg];simp,h2⟩
   ·rw[bd _ _ e] at h1;exact .inr ⟨i,h1,h2⟩⟩
 exact ⟨ev,rel,reld,evd⟩
theorem BRel.monoI {I':Nat→Prop} {k:Nat} {bk:Blk} (h:BRel w I α k bk) (hI:∀b,I b→I' b):BRel w I' α k bk:=by
 have mono:∀ {a:AV} {u:Value},Rep w I α a u→Rep w I' α a u:=fun h=>h.mono hI (fun _ _ h=>h) (fun _ _ _=>rfl) (fun _ _ _=>rfl)
 cases bk with
 |cells l=>obtain ⟨cc,e,h1,h2,h3⟩:=h;exact ⟨cc,e,h1,h2,h3.1,fun i x y e1 e2=>mono (h3.2 i x y e1 e2)⟩
 |siter s p=>exact h
 |mapb cl st es=>obtain ⟨en,h1,h2,h4,h3⟩:=h;exact ⟨en,h1,h2,h4,fun i x y e1 e2=>⟨mono (h3 i x y e1 e2).1,mono (h3 i x y e1 e2).2⟩⟩
 |miter m since seen last=>exact h
theorem qg {w':World} {id b:Nat} {blk:Blk} {v:AV} {v':Value} (c:Ctx P G call w I α H rid nx) (hg:hget H id=some blk) (hα:α id=some b)
  (hs:w'.heap.size=w.heap.size) (ho:∀k,k≠b→w'.heap[k]? =w.heap[k]?) (hsh:w'.shape? b=w.shape? b)
  (hv:∀I',(∀k,I k→I' k)→I' b→Ev w I α H w' I' α (ao H id)→Rep w' I' α v v') (hos:SameOs w w':=by first|assumption|exact ⟨rfl,rfl,rfl⟩):Post G w I α H rid nx v (ao H id) nx v' w':=by
 obtain ⟨reld,evd⟩:=ng c hg hα hs ho hsh
 have hI:∀k,I k→(fun k=>I k∨k=b) k:=fun k h=> .inl h
 have ev:Ev w I α H w' (fun k=>I k∨k=b) α (ao H id):=
  ⟨evd.os,hI,evd.α_mono,evd.size,evd.frame,evd.shape,fun k hk=>by
   rcases hk with hk|rfl
   ·exact .inl hk
   ·exact .inr (.inr ⟨id,by rw[hg];simp,hα⟩),evd.own⟩
 have rel:Rel G w' (fun k=>I k∨k=b) α (ao H id):=
  {live:=fun i blk0 hi=>by
    have hid:i≠id:=fun e=>by subst e;rw[co] at hi;cases hi
    obtain ⟨k,h1,h2,h3⟩:=reld.live i blk0 hi
    refine ⟨k,h1,fun hk=> ?_,h3.monoI hI⟩
    rcases hk with hk|rfl
    ·exact h2 hk
    ·rw[bZ _ hid] at hi
     exact hid (c.rel.inj i id k (by rw[hi];simp) (by rw[hg];simp) h1 hα)
   inj:=reld.inj
   imm:=fun k hk=>by
    rcases hk with hk|rfl
    ·exact reld.imm k hk
    ·exact reld.dom id k hα
   dom:=reld.dom
   glob:=fun g l hg'=>by
    obtain ⟨h1,h2⟩:=reld.glob g l hg'
    exact ⟨.inl h1,fun j x hx=>let ⟨y,e,hy⟩:=h2 j x hx;⟨y,e,hy.mono hI (fun _ _ h=>h) (fun _ _ _=>rfl) (fun _ _ _=>rfl)⟩⟩}
 exact ⟨⟨_,α,ev,rel,hv _ hI (.inr rfl) ev,fun _ h=> .inl h⟩,Nat.le_refl _⟩
theorem qh {m:Result Next} {id:Nat} {k:Blk→Option AV} (c:Ctx P G call w I α H rid nx)
  (h:∀blk b v,hget H id=some blk→α id=some b→BRel w I α b blk→k blk=some v→bL P (Post G w I α H rid nx v (ao H id) nx) m):
  be P G call w I α H rid nx m (.shut id k):=by
 intro d u H' nx' ft he
 have:∃blk,hget H id=some blk∧k blk=some u∧H'=ao H id∧nx'=nx:=by
  cases d<;>
  ·simp only[ai] at he
   split at he
   ·rename_i blk hb
    split at he
    ·rename_i v hk
     simp only[Option.some.injEq,Prod.mk.injEq] at he
     obtain ⟨rfl,rfl,rfl,_⟩:=he
     exact ⟨blk,hb,hk,rfl,rfl⟩
    ·simp at he
   ·simp at he
 obtain ⟨blk,hb,hk,rfl,rfl⟩:=this
 obtain ⟨b,hα,_,hB⟩:=c.rel.live id blk hb
 exact h blk b u hb hα hB hk
theorem ew {w':World} {id b:Nat} {blk blk':Blk} {v:AV} {v':Value} (c:Ctx P G call w I α H rid nx) (hg:hget H id=some blk) (hα:α id=some b)
  (hs:w'.heap.size=w.heap.size) (ho:∀k,k≠b→w'.heap[k]? =w.heap[k]?) (hsh:w'.shape? b=w.shape? b)
  (hB:Rel G w' I α (ao H id)→Ev w I α H w' I α (ao H id)→BRel w' I α b blk') (hv:Rel G w' I α (ao H id)→Ev w I α H w' I α (ao H id)→Rep w' I α v v') (hos:SameOs w w':=by first|assumption|exact ⟨rfl,rfl,rfl⟩):Post G w I α H rid nx v (an H id blk') nx v' w':=
 let ⟨ev,rel,reld,evd⟩:=nh c hg hα hs ho hsh hB
 ⟨⟨I,α,ev,rel,hv reld evd,fun _ h=> .inl h⟩,Nat.le_refl _⟩
theorem fw {m:Result Next} {id:Nat} {k:Blk→Option (Blk × AV)} (c:Ctx P G call w I α H rid nx)
  (h:∀blk b blk' v,hget H id=some blk→α id=some b→BRel w I α b blk→k blk=some (blk',v)→bL P (Post G w I α H rid nx v (an H id blk') nx) m):
  be P G call w I α H rid nx m (.upd id k):=by
 intro d u H' nx' ft he
 have:∃blk blk',hget H id=some blk∧k blk=some (blk',u)∧H'=an H id blk'∧nx'=nx:=by
  cases d<;>
  ·simp only[ai] at he
   split at he
   ·rename_i blk hb
    split at he
    ·rename_i blk' v hk
     simp only[Option.some.injEq,Prod.mk.injEq] at he
     obtain ⟨rfl,rfl,rfl,_⟩:=he
     exact ⟨blk,blk',hb,hk,rfl,rfl⟩
    ·simp at he
   ·simp at he
 obtain ⟨blk,blk',hb,hk,rfl,rfl⟩:=this
 obtain ⟨b,hα,_,hB⟩:=c.rel.live id blk hb
 exact h blk b blk' u hb hα hB hk
theorem qi {m:Result Next} {id:Nat} {k:Blk→Option (Blk × (Nat→AV))} (c:Ctx P G call w I α H rid nx)
  (h:∀blk b blk' v,hget H id=some blk→α id=some b→BRel w I α b blk→k blk=some (blk',v)→bL P (Post G w I α H rid nx (v rid) (an (ao H id) rid blk') nx) m):
  be P G call w I α H rid nx m (.repl id k):=by
 intro d u H' nx' ft he
 have:∃blk blk' v,hget H id=some blk∧k blk=some (blk',v)∧u=v rid∧H'=an (ao H id) rid blk'∧nx'=nx:=by
  cases d<;>
  ·simp only[ai] at he
   split at he
   ·rename_i blk hb
    split at he
    ·rename_i blk' v hk
     simp only[Option.some.injEq,Prod.mk.injEq] at he
     obtain ⟨rfl,rfl,rfl,_⟩:=he
     exact ⟨blk,blk',v,hb,hk,rfl,rfl,rfl⟩
    ·simp at he
   ·simp at he
 obtain ⟨blk,blk',v,hb,hk,rfl,rfl,rfl⟩:=this
 obtain ⟨b,hα,_,hB⟩:=c.rel.live id blk hb
 exact h blk b blk' v hb hα hB hk
theorem iE (r:Rel G w I α H) (id:Nat):Rel G w I α (ao H id) where
 live i blk hi:=by
  by_cases e:i=id
  ·subst e;rw[co] at hi;cases hi
  ·rw[bZ _ e] at hi;exact r.live i blk hi
 inj i j k h1 h2 h3 h4:=by
  by_cases e:i=id
  ·subst e;rw[co] at h1;exact absurd rfl h1
  ·by_cases e':j=id
   ·subst e';rw[co] at h2;exact absurd rfl h2
   ·rw[bZ _ e] at h1;rw[bZ _ e'] at h2
    exact r.inj i j k h1 h2 h3 h4
 imm:=r.imm
 dom:=r.dom
 glob:=r.glob
theorem qj (id:Nat):Ev w I α H w I α (ao H id):=
 ⟨.refl _,fun _ h=>h,fun _ _ h=>h,Nat.le_refl _,fun _ _ _=>rfl,fun _ _=>rfl,fun _ h=> .inl h,fun b hb=>by
  obtain ⟨i,h1,h2⟩:=hb
  by_cases e:i=id
  ·subst e;rw[co] at h1;exact absurd rfl h1
  ·rw[bZ _ e] at h1;exact .inr ⟨i,h1,h2⟩⟩
end
end Go.Proofs.Abs
/- Small laws: lists, rows of cells, types; each operation that looks at values alone. -/
namespace Go.Proofs.Abs
open Go
theorem cq {α:Type}:∀ (l:List α) (i:Nat),aT l i=l[i]?
 |[],_=>by simp[aT]
 |_::_,0=>rfl
 |_::t,i+1=>by simpa [aT] using cq t i
theorem ak {α:Type}:∀ (l:List α),ab l=l.length
 |[]=>rfl
 |_::t=>by simp[ab,ak t]
theorem ni {α:Type}:∀ (l:List α) (i:Nat) (x:α),fY l i x=l.set i x
 |[],_,_=>by simp[fY]
 |_::_,0,_=>rfl
 |a::t,i+1,x=>by simpa [fY] using ni t i x
theorem dM:∀ (l:List AV) (o n:Nat) (c:List AV),chunk l o n=some c→c=(l.drop o).take n∧c.length=n∧(n=0∨o+n≤l.length)
 |l,o,0,c,h=>by cases l<;>simp[chunk] at h<;>subst h<;>simp
 |[],_,n+1,_,h=>by simp[chunk] at h
 |a::t,0,n+1,c,h=>by
  simp only[chunk,Option.map_eq_some_iff] at h
  obtain ⟨c',h1,rfl⟩:=h
  obtain ⟨e1,e2,e3⟩:=dM t 0 n c' h1
  refine ⟨by simp at e1⊢;exact e1,by simp[e2],.inr (by simp;omega)⟩
 |a::t,o+1,n+1,c,h=>by
  simp only[chunk] at h
  obtain ⟨e1,e2,e3⟩:=dM t o (n+1) c h
  exact ⟨by simpa using e1,e2,.inr (by simp;omega)⟩
theorem cP:∀ (l:List AV) (o:Nat) (vs l':List AV),splice l o vs=some l'→l'=l.take o++vs++l.drop (o+vs.length)∧(vs=[]∨o+vs.length≤l.length)
 |l,o,[],l',h=>by cases l<;>simp[splice] at h<;>subst h<;>simp
 |[],_,_::_,_,h=>by simp[splice] at h
 |a::t,0,v::vs,l',h=>by
  simp only[splice,Option.map_eq_some_iff] at h
  obtain ⟨c,h1,rfl⟩:=h
  obtain ⟨e1,e2⟩:=cP t 0 vs c h1
  refine ⟨by simp at e1⊢;exact e1,.inr ?_⟩
  rcases e2 with e2|e2
  ·subst e2;simp
  ·simp at e2⊢;omega
 |a::t,o+1,v::vs,l',h=>by
  simp only[splice,Option.map_eq_some_iff] at h
  obtain ⟨c,h1,rfl⟩:=h
  obtain ⟨e1,e2⟩:=cP t o (v::vs) c h1
  refine ⟨by rw[e1];simp[show o+1+(vs.length+1)=o+(vs.length+1)+1 by omega],.inr ?_⟩
  rcases e2 with e2|e2
  ·cases e2
  ·simp at e2⊢;omega
theorem qk {l:List AV} {o:Nat} {vs l':List AV} (h:splice l o vs=some l'):l'.length=l.length:=by
 obtain ⟨e1,e2⟩:=cP l o vs l' h
 rw[e1]
 rcases e2 with e2|e2
 ·subst e2;simp
 ·simp;omega
section
variable {P:Program} {w:World} {I:Nat→Prop} {α:Nat→Option Nat}
theorem nj {v:Value} {a:AV} (h:ig v=some a):Rep w I α a v:=by
 unfold ig at h
 split at h<;>simp at h<;>subst h
 ·exact .bool _
 ·exact .int _ _
 ·exact .str _ _ rfl
 ·exact .nilp
 ·exact .nilsl
 ·exact .nilmap
 ·exact .nilFunc
 ·exact .nilIface
theorem nk:∀ {vs:List Value} {l:List AV},fZ vs=some l→RepL w I α l vs
 |[],l,h=>by simp[fZ] at h;subst h;exact .nil
 | v::vs,l,h=>by
  simp only[fZ] at h
  split at h
  ·rename_i a ha
   split at h
   ·rename_i l' hl
    simp at h;subst h
    exact .cons (nj ha) (nk hl)
   ·simp at h
  ·simp at h
theorem cr {v:Value} {a:AV} (h:ofValue v=some a):Rep w I α a v:=by
 unfold ofValue at h
 split at h
 ·split at h
  ·rename_i l hl
   simp at h;subst h
   exact Rep.agg_iff.2 ⟨_,rfl,nk hl⟩
  ·simp at h
 ·split at h
  ·rename_i hl
   simp at h;subst h
   exact Rep.tuple_iff.2 ⟨_,rfl,by rw[hl];exact .nil⟩
  ·simp at h
 ·exact nj h
theorem ad {t:TypeId} {d:TypeDesc} (h:P.underlying t=some d):(underlying t).run P w= .ok d w:=by
 simp[underlying,h]
theorem cD {t:TypeId} {i:TypeInfo} (h:P.info? t=some i):(typeInfo t).run P w= .ok i w:=by
 simp[typeInfo,h]
theorem j2 {t:TypeId} {n:Nat} (h:aE P t=some n):∃i,P.info? t=some i∧i.size=n:=by
 simpa [aE,Option.map_eq_some_iff] using h
theorem a9 {t:TypeId} {n:Nat} (h:aE P t=some n):(sizeOf t).run P w= .ok n w:=by
 obtain ⟨i,h1,rfl⟩:=j2 h
 simp[sizeOf,cD h1]
theorem iF {t:TypeId} {b:Bool} (h:eZ P t=some b):(isAgg t).run P w= .ok b w:=by
 simp only[eZ,Option.map_eq_some_iff] at h
 obtain ⟨d,h1,rfl⟩:=h
 simp only[isAgg,Sem.run_bind,ad h1,Result.andThen_ok]
 cases d<;>rfl
theorem cQ {t:TypeId} {z:AV} (h:bt P t=some z):∃i v,P.info? t=some i∧i.zero=some v∧ofValue v=some z:=by
 unfold bt at h
 cases h1:P.info? t with
 |none=>simp[h1] at h
 |some i=>
  cases h2:i.zero with
  |none=>simp[h1,h2] at h
  |some v=>exact ⟨i,v,rfl,h2,by simpa [h1,h2] using h⟩
theorem cR {t:TypeId} {i:TypeInfo} {v:Value} (h:P.info? t=some i) (h2:i.zero=some v):(zeroValue t).run P w= .ok v w:=by
 simp[zeroValue,cD h,h2]
def Row (w:World) (I:Nat→Prop) (α:Nat→Option Nat) (b base:Nat) (cs:List AV):Prop:=
 ∀ (j:Nat) c,cs[j]? =some c→∃y,w.cell? ⟨b,base+j,none⟩=some y∧Rep w I α c y
theorem add_lit (b o n:Nat):(⟨b,o,none⟩:Addr).add n=⟨b,o+n,none⟩:=by
 unfold Addr.add;split<;>simp_all
theorem Row.chunk {b base:Nat} {cs:List AV} (h:Row w I α b base cs) {off n:Nat} {c:List AV} (hc:chunk cs off n=some c):
  ∃vs:List Value,vs.length=n∧(loadCells ⟨b,base+off,none⟩ n).run P w= .ok vs.toArray w∧RepL w I α c vs:=by
 obtain ⟨e1,e2,e3⟩:=dM _ _ _ _ hc
 have hget:∀j,j<n→∃x y,c[j]? =some x∧w.cell? ⟨b,base+off+j,none⟩=some y∧Rep w I α x y:=fun j hj=>by
  have hlt:off+j<cs.length:=by omega
  obtain ⟨y,h1,h2⟩:=h (off+j) cs[off+j] (by simp[hlt])
  refine ⟨cs[off+j],y, ?_,by rw[Nat.add_assoc];exact h1,h2⟩
  rw[e1,List.getElem?_take_of_lt hj,List.getElem?_drop];simp[hlt]
 let f:Nat→Value:=fun j=>(w.cell? ⟨b,base+off+j,none⟩).getD undef
 refine ⟨(List.range n).map f,by simp, ?_,⟨by simp[e2],fun i x y h1 h2=> ?_⟩⟩
 ·exact run_loadCells w _ n f (fun j hj=>by
   rw[add_lit]
   obtain ⟨x,y,_,h2,_⟩:=hget j hj
   simp[f,h2])
 ·have hi:i<n:=by
   rcases Nat.lt_or_ge i n with h'|h'
   ·exact h'
   ·rw[List.getElem?_eq_none (by omega)] at h1;cases h1
  obtain ⟨x',y',e1',e2',hr⟩:=hget i hi
  rw[e1'] at h1;cases h1
  simp[hi,f,e2'] at h2
  subst h2
  exact hr
theorem Row.part {b base:Nat} {cs:List AV} (h:Row w I α b base cs) {t:TypeId} {off:Nat} {v:AV} (hv:a5 P t cs off=some v):
  ∃v',(loadVar t ⟨b,base+off,none⟩).run P w= .ok v' w∧Rep w I α v v':=by
 unfold a5 at hv
 split at hv
 ·rename_i ha
  split at hv
  ·rename_i n hn
   simp only[Option.map_eq_some_iff] at hv
   obtain ⟨c,hc,rfl⟩:=hv
   obtain ⟨vs,h1,h2,h3⟩:=h.chunk (P:=P) hc
   exact ⟨.agg vs.toArray,by simp[loadVar,iF ha,a9 hn,h2],Rep.agg_iff.2 ⟨_,rfl,by simpa using h3⟩⟩
  ·simp at hv
 ·rename_i ha
  rw[cq] at hv
  obtain ⟨y,h1,h2⟩:=h off v hv
  exact ⟨y,by simp[loadVar,iF ha,h1],h2⟩
 ·simp at hv
theorem RepL.part {cs:List AV} {vs:List Value} (h:RepL w I α cs vs) {t:TypeId} {off:Nat} {v:AV} (hv:a5 P t cs off=some v):
  ∃v',(part t vs.toArray off).run P w= .ok v' w∧Rep w I α v v':=by
 unfold a5 at hv
 split at hv
 ·rename_i ha
  split at hv
  ·rename_i n hn
   simp only[Option.map_eq_some_iff] at hv
   obtain ⟨c,hc,rfl⟩:=hv
   obtain ⟨e1,e2,e3⟩:=dM _ _ _ _ hc
   refine ⟨.agg (vs.toArray.extract off (off+n)),by simp[Go.part,iF ha,a9 hn],Rep.agg_iff.2 ⟨_,rfl, ?_⟩⟩
   have e4:(vs.toArray.extract off (off+n)).toList=(vs.drop off).take n:=by
    simp[List.extract_eq_take_drop]
   rw[e4]
   refine ⟨by rw[e1];simp[h.1],fun i x y h1 h2=> ?_⟩
   have hi:i<n:=by
    rcases Nat.lt_or_ge i n with h'|h'
    ·exact h'
    ·rw[List.getElem?_eq_none (by omega)] at h1;cases h1
   rw[e1,List.getElem?_take_of_lt hi,List.getElem?_drop] at h1
   rw[List.getElem?_take_of_lt hi,List.getElem?_drop] at h2
   exact h.2 _ _ _ h1 h2
  ·simp at hv
 ·rename_i ha
  rw[cq] at hv
  obtain ⟨y,h1,h2⟩:=h.get hv
  exact ⟨y,by simp[Go.part,iF ha,h1],h2⟩
 ·simp at hv
theorem BRel.row {b:Nat} {l:List AV} (h:BRel w I α b (.cells l)):Row w I α b 0 l:=by
 obtain ⟨c,e,h1,h2,h3⟩:=h
 intro j x hx
 have hj:j<l.length:=by
  rcases Nat.lt_or_ge j l.length with h'|h'
  ·exact h'
  ·rw[List.getElem?_eq_none h'] at hx;cases hx
 have hjc:j<c.size:=by omega
 refine ⟨c[j],by simp[World.cell?,h1,hjc],h3.2 j x _ hx ?_⟩
 rw[List.getElem?_take_of_lt hj];simp[hjc]
theorem Rep.fptr_row {cs:List AV} {off:Nat} {v:Value} (h:Rep w I α (.fptr cs off) v):∃b base,v= .pointer (some ⟨b,base+off,none⟩)∧I b∧Row w I α b base cs:=by
 cases h with
 |fptr _ _ b base g hI hg hr=>exact ⟨b,base,rfl,hI,fun j c hc=>⟨g j,hg j c hc,hr j c hc⟩⟩
theorem Rep.fsl_elem {full:Bool} {es:List AV} {v:Value} (h:Rep w I α (.fsl full es) v) {sz:Nat} {i:Nat} {e:AV} (he:es[i]? =some e) (hsz:e.cells.length=sz):
  ∃b base len cap,v= .slice (some ⟨b,base,none⟩) len cap∧len=es.length∧I b∧Row w I α b (base+i*sz) e.cells:=by
 cases h with
 |fsl _ _ a len cap sz' b base g hl hc hf ha hI hs hg hr=>
  have hne:es≠[]:=by intro h;simp[h] at he
  have:sz'=sz:=by rw[←hs e (List.mem_of_getElem? he),hsz]
  subst this
  exact ⟨b,base,len,cap,by rw[gw hl hc ha hne],hl.symm,hI hne,fun j c hc'=>⟨g i j,hg i e j c he hc',hr i e j c he hc'⟩⟩
end
end Go.Proofs.Abs
/- Each operation that looks at values, or loads: what it yields. -/
namespace Go.Proofs.Abs
open Go
def ct (w:World) (I:Nat→Prop) (α:Nat→Option Nat) (s:Tr) (tmps:Array Value):Prop:=
 ∀t v,s.get t=some v→∃y,tmps[t]? =some y∧Rep w I α v y
section
variable {P:Program} {G:ae} {call:af} {w:World} {I:Nat→Prop} {α:Nat→Option Nat} {H:aa} {rid nx:Nat}
theorem az {s:Tr} {a:Act} {x:Operand} {v:AV} (hs:ct w I α s a.tmps) (h:aj s x=some v):Rep w I α v (a.eval x):=by
 cases x with
 |tmp t=>
  obtain ⟨y,h1,h2⟩:=hs t v h
  simp[Act.eval,h1];exact h2
 |const c=>exact cr h
 |global g=>simp[aj] at h;subst h;exact .gptr g 0
 |func f=>simp[aj] at h;subst h;exact Rep.func_iff.2 ⟨#[], #[],rfl,by simpa using RepL.nil,by simpa using RepL.nil⟩
theorem iG {s:Tr} {a:Act} (hs:ct w I α s a.tmps):∀ {l:List Operand} {vs:List AV},cd (aj s) l=some vs→RepL w I α vs (l.map a.eval)
 |[],vs,h=>by simp[cd] at h;subst h;exact .nil
 | x::l,vs,h=>by
  simp only[cd] at h
  split at h
  ·rename_i v hv
   simp only[Option.map_eq_some_iff] at h
   obtain ⟨us,h1,rfl⟩:=h
   exact .cons (az hs hv) (iG hs h1)
  ·simp at h
def aX (P:Program) (G:ae) (call:af) (w:World) (I:Nat→Prop) (α:Nat→Option Nat) (H:aa) (rid nx:Nat) (s:Sem Value) (e:Eff):Prop:=
 be P G call w I α H rid nx ((s.run P w).andThen fun v w'=> .ok (.value v) w') e
def iH (P:Program) (G:ae) (call:af) (w:World) (I:Nat→Prop) (α:Nat→Option Nat) (H:aa) (rid nx:Nat) (s:Sem Unit) (e:Eff):Prop:=
 be P G call w I α H rid nx ((s.run P w).andThen fun _ w'=> .ok .skip w') e
theorem aG {s:Sem Value} {v:AV} {v':Value} (c:Ctx P G call w I α H rid nx) (hm:s.run P w= .ok v' w) (h:Rep w I α v v'):aX P G call w I α H rid nx s (.val v):=
 ce c (by rw[hm];rfl) h
theorem dq (k:IntKind) (n:Int):al k n=k.wrap n:=by
 cases k<;>cases n<;>simp only[al]
 ·split
  ·rename_i m h
   have h:=Nat.le_of_ble_eq_true h
   rw[IntWalk.i64_in _ ⟨by simp only[Int.ofNat_eq_natCast];omega,by simp only[Int.ofNat_eq_natCast];omega⟩]
  ·rfl
 ·split
  ·rename_i m h
   have h:=Nat.le_of_ble_eq_true h
   rw[IntWalk.i64_in _ ⟨by simp only[Int.negSucc_eq];omega,by simp only[Int.negSucc_eq];omega⟩]
  ·rfl
 ·split
  ·rename_i m h
   have h:=Nat.le_of_ble_eq_true h
   rw[IntWalk.u8_in _ ⟨by simp only[Int.ofNat_eq_natCast];omega,by simp only[Int.ofNat_eq_natCast];omega⟩]
  ·rfl
 ·split
  ·rename_i m h
   have h:=Nat.le_of_ble_eq_true h
   rw[IntWalk.u32_in _ ⟨by simp only[Int.ofNat_eq_natCast];omega,by simp only[Int.ofNat_eq_natCast];omega⟩]
  ·rfl
 ·split
  ·rename_i m h
   have h:=Nat.le_of_ble_eq_true h
   rw[IntWalk.u64_in _ ⟨by simp only[Int.ofNat_eq_natCast];omega,by simp only[Int.ofNat_eq_natCast];omega⟩]
  ·rfl
theorem ey (a b:Int):bK a b=(a==b):=by
 cases a<;>cases b<;>simp[bK]<;>(rw[Bool.eq_iff_iff];simp;try omega)
theorem dc (a b:Int):aV a b=decide (a<b):=by
 cases a<;>cases b<;>simp only[aV]<;>rw[Bool.eq_iff_iff]<;>simp<;>omega
theorem gB:∀ (a b:List UInt8),cy a b=(a==b)
 |[],[]=>rfl
 |[],_::_=>rfl
 |_::_,[]=>rfl
 | a::x,b::y=>by
  simp only[cy]
  split
  ·rename_i h
   have:a=b:=UInt8.toNat_inj.1 (beq_iff.1 h)
   subst this
   rw[gB x y];simp
  ·rename_i h
   have:a≠b:=fun e=>beq_false_iff.1 h (by rw[e])
   simp[this]
theorem nl:∀ (a b:List UInt8),cb a b=Op.bytesLess a b
 |x,[]=>by cases x<;>simp[cb,Op.bytesLess]
 |[],_::_=>by simp[cb,Op.bytesLess]
 | a::x,b::y=>by
  simp only[cb,Op.bytesLess]
  split
  ·rename_i h
   have:a<b:=by rw[UInt8.lt_iff_toNat_lt];simpa using h
   simp[this]
  ·rename_i h
   have h1:¬a<b:=by
    rw[UInt8.lt_iff_toNat_lt]
    have:¬ (Nat.blt a.toNat b.toNat=true):=by rw[h];simp
    simpa using this
   split
   ·rename_i h2
    have:a=b:=UInt8.toNat_inj.1 (beq_iff.1 h2)
    subst this
    rw[nl x y];simp
   ·rename_i h2
    have:a≠b:=fun e=>beq_false_iff.1 h2 (by rw[e])
    simp[h1,this]
theorem j3 {n m:Nat} (ih:∀ (t:TypeId) (x y:AV) (x' y':Value) (r:Bool),Rep w I α x x'→Rep w I α y y'→bn P n t x y=some r→(Op.equalIn m t x' y').run P w= .ok r w):
  ∀ (fs:List Field) (xs ys:List AV) (xs' ys':List Value) (r:Bool),RepL w I α xs xs'→RepL w I α ys ys'→dj P (bn P n) fs xs ys=some r→
   (Op.eqFields m xs'.toArray ys'.toArray fs).run P w= .ok r w
 |[],_,_,_,_,r,_,_,h=>by simp[dj] at h;subst h;rfl
 | f ::fs,xs,ys,xs',ys',r,hx,hy,h=>by
  simp only[dj] at h
  split at h
  ·rename_i hn
   have hn:f.name= "_" :=by simpa using hn
   simp only[Op.eqFields,hn,ne_eq,not_true_eq_false,if_false]
   exact j3 ih fs xs ys xs' ys' r hx hy h
  ·rename_i hn
   have hn:f.name≠ "_" :=by simpa using hn
   split at h
   ·rename_i a b ha hb
    obtain ⟨a',ra,ha'⟩:=hx.part (P:=P) ha
    obtain ⟨b',rb,hb'⟩:=hy.part (P:=P) hb
    simp only[Op.eqFields,ne_eq,hn,not_false_eq_true,if_true,Sem.run_bind,ra,rb,Result.andThen_ok]
    split at h
    ·rename_i he
     rw[ih _ _ _ _ _ _ ha' hb' he]
     simp only[Result.andThen_ok,Bool.not_true,Bool.false_eq_true,if_false]
     exact j3 ih fs xs ys xs' ys' r hx hy h
    ·rename_i he
     rw[ih _ _ _ _ _ _ ha' hb' he]
     simp at h;subst h
     rfl
    ·simp at h
   ·simp at h
theorem nm {n m:Nat} (ih:∀ (t:TypeId) (x y:AV) (x' y':Value) (r:Bool),Rep w I α x x'→Rep w I α y y'→bn P n t x y=some r→(Op.equalIn m t x' y').run P w= .ok r w) {e:TypeId} {sz:Nat} {xs ys:List AV} {xs' ys':List Value} (hx:RepL w I α xs xs') (hy:RepL w I α ys ys'):
  ∀ (is:List Nat) (r:Bool),dE P (bn P n) e sz xs ys is=some r→(Op.eqItems m e sz xs'.toArray ys'.toArray is).run P w= .ok r w
 |[],r,h=>by simp[dE] at h;subst h;rfl
 | i::is,r,h=>by
  simp only[dE] at h
  split at h
  ·rename_i a b ha hb
   obtain ⟨a',ra,ha'⟩:=hx.part (P:=P) ha
   obtain ⟨b',rb,hb'⟩:=hy.part (P:=P) hb
   simp only[Op.eqItems,Sem.run_bind,ra,rb,Result.andThen_ok]
   split at h
   ·rename_i he
    rw[ih _ _ _ _ _ _ ha' hb' he]
    simpa using nm ih hx hy is r h
   ·rename_i he
    rw[ih _ _ _ _ _ _ ha' hb' he]
    simp at h;subst h
    simp
   ·simp at h
  ·simp at h
set_option maxHeartbeats 1600000 in
theorem j4:∀ (n m:Nat),n≤m→∀ (t:TypeId) (x y:AV) (x' y':Value) (r:Bool),Rep w I α x x'→Rep w I α y y'→bn P n t x y=some r→(Op.equalIn m t x' y').run P w= .ok r w
  |0,_,_,_,_,_,_,_,_,_,_,h=>by simp[bn] at h
  |n+1,0,hn,_,_,_,_,_,_,_,_,_=>by omega
  | n + 1, m +1,hn,t,x,y,x',y',r,hx,hy,h=>by
    unfold bn at h
    split at h
    case h_4 fs xs ys ht=>
      obtain ⟨xs',rfl,hx'⟩:=Rep.agg_iff.1 hx
      obtain ⟨ys',rfl,hy'⟩:=Rep.agg_iff.1 hy
      split at h
      · simp at h
      · rename_i hst
        have hf:P.fieldsOf t=fs:=by simp[Program.fieldsOf,ht]
        rw[run_equalIn_struct w m t xs' ys' (by rw[hf];exact ht) (by simpa using hst),hf]
        exact j3 (j4 n m (by omega)) fs.toList xs ys xs'.toList ys'.toList r hx' hy' h
    case h_22 k e xs ys ht=>
      obtain ⟨xs',rfl,hx'⟩:=Rep.agg_iff.1 hx
      obtain ⟨ys',rfl,hy'⟩:=Rep.agg_iff.1 hy
      split at h
      · rename_i sz hsz
        simp only[aE,Option.map_eq_some_iff] at hsz
        obtain ⟨i,hi,hsz⟩:=hsz
        have hc:P.cellsOf e=sz:=by simp[Program.cellsOf,hi,hsz]
        rw[run_equalIn_array w m xs' ys' ht hi,hc]
        exact nm (j4 n m (by omega)) hx' hy' _ r h
      · simp at h
    case h_2 ht=>
      cases hx;cases hy
      split at h
      · rename_i e;subst e;simp only[Option.some.injEq] at h;subst h
        simp[Op.equalIn,ad ht,ey]
      · simp at h
    case h_3 ht=>
      cases hx with
      | str _ b hb=>cases hy with
        | str _ b' hb'=>
          simp only[Option.some.injEq] at h;subst h
          rw[run_equalIn_string w m t b b' ht,ByteArray.toList_eq,ByteArray.toList_eq,hb,hb',gB]
    all_goals first
      | (rename_i ht
         cases hx with
         | fsl _ _ a len cap sz b base g hl hc hf ha hI hs hg hr=>
           have ha':a=some ⟨b,base,none⟩:=by
             rcases ha with ha|⟨_,h0⟩
             · exact ha
             · exfalso;simp at hl;omega
           clear ha hI hs hg hr
           subst ha'
           cases hy;simp only[Option.some.injEq] at h;subst h
           simp[Op.equalIn,ad ht];done)
      |(rename_i ht;cases hx;cases hy;simp only[Option.some.injEq] at h;subst h;simp[Op.equalIn,ad ht];done)
      |(simp at h;done)
end
end Go.Proofs.Abs
/- Operations on values, loads, new variables. -/
namespace Go.Proofs.Abs
open Go
section
variable {P:Program} {G:ae} {call:af} {w:World} {I:Nat→Prop} {α:Nat→Option Nat} {H:aa} {rid nx:Nat}
theorem ql {t:TypeId} {x y:AV} {x' y':Value} {r:Bool} (hx:Rep w I α x x') (hy:Rep w I α y y') (h:bn P 16 t x y=some r):
  (Op.equal t x' y').run P w= .ok r w:=j4 16 10000 (by omega) t x y x' y' r hx hy h
theorem qm {op:BinOp} {t:TypeId} {xo yo:Operand} {k k':IntKind} {a b:Int} {v:AV} (h:a6 P op t xo yo (.int k a) (.int k' b)=some v):
  ∃v',(do eqGuard op t xo yo (.int k a) (.int k' b);binOp op t (.int k a) (.int k' b):Sem Value).run P w= .ok v' w∧Rep w I α v v':=by
 have hg:(eqGuard op t xo yo (.int k a) (.int k' b)).run P w= .ok () w:=by cases op<;>simp[eqGuard]
 simp only[Sem.run_bind,hg,Result.andThen_ok]
 cases op
 case shl=>
  simp only[a6,dc] at h
  split at h
  ·simp at h
  ·rename_i hb
   simp at h hb;subst h
   refine ⟨_, ?_,.int _ _⟩
   rw[dq]
   simp[binOp,Op.shift,Int.not_lt.2 hb]
 case shr=>
  simp only[a6,dc] at h
  split at h
  ·simp at h
  ·rename_i hb
   simp at h hb;subst h
   refine ⟨_, ?_,.int _ _⟩
   simp[binOp,Op.shift,Int.not_lt.2 hb]
 all_goals
  have hk:k=k':=Decidable.by_contra fun hne=>by simp[a6,hne] at h
  subst hk
  simp only[a6,ne_eq,not_true_eq_false,if_false] at h
 case quo=>
  rw[ey] at h
  split at h
  ·simp at h
  ·rename_i hb
   simp at hb h;subst h
   refine ⟨_, ?_,.int _ _⟩
   rw[dq]
   simp[binOp,Op.intDiv,hb]
 case rem=>
  rw[ey] at h
  split at h
  ·simp at h
  ·rename_i hb
   simp at hb h;subst h
   refine ⟨_, ?_,.int _ _⟩
   simp[binOp,Op.intDiv,hb]
 case eql=>simp only[Option.some.injEq] at h;subst h;exact ⟨_,by simp[binOp,Op.intCmp,ey],.bool _⟩
 case neq=>simp only[Option.some.injEq] at h;subst h;exact ⟨_,by simp[binOp,Op.intCmp,ey];rfl,.bool _⟩
 case lss=>simp only[Option.some.injEq] at h;subst h;exact ⟨_,by simp[binOp,Op.intCmp,dc],.bool _⟩
 case leq=>simp only[Option.some.injEq] at h;subst h;exact ⟨_,by simp[binOp,Op.intCmp,dc];rw[Bool.eq_iff_iff];simp,.bool _⟩
 case gtr=>simp only[Option.some.injEq] at h;subst h;exact ⟨_,by simp[binOp,Op.intCmp,dc],.bool _⟩
 case geq=>simp only[Option.some.injEq] at h;subst h;exact ⟨_,by simp[binOp,Op.intCmp,dc];rw[Bool.eq_iff_iff];simp,.bool _⟩
 all_goals first
  |(simp at h;done)
  |(simp only[Option.some.injEq] at h;subst h;exact ⟨_,by simp[binOp,Op.intArith,Op.intBits,dq],.int _ _⟩)
theorem qn {op:BinOp} {t:TypeId} {xo yo:Operand} {a b:List UInt8} {a' b':ByteArray} {v:AV} (ha:a'.data.toList=a) (hb:b'.data.toList=b)
  (h:a6 P op t xo yo (.str a) (.str b)=some v):
  ∃v',(do eqGuard op t xo yo (.string a') (.string b');binOp op t (.string a') (.string b'):Sem Value).run P w= .ok v' w∧Rep w I α v v':=by
 have hg:(eqGuard op t xo yo (.string a') (.string b')).run P w= .ok () w:=by cases op<;>simp[eqGuard]
 simp only[Sem.run_bind,hg,Result.andThen_ok]
 have la:a'.toList=a:=by rw[ByteArray.toList_eq,ha]
 have lb:b'.toList=b:=by rw[ByteArray.toList_eq,hb]
 have sa:a'.size=a.length:=by rw[←ha];exact Array.length_toList.symm
 have sb:b'.size=b.length:=by rw[←hb];exact Array.length_toList.symm
 cases op<;>simp only[a6] at h
 case add=>
  split at h
  ·rename_i hc
   simp only[Option.some.injEq] at h;subst h
   refine ⟨.string (a'++b'), ?_,.str _ _ (by rw[ByteArray.data_append,Array.toList_append,ha,hb])⟩
   have hc':=Nat.le_of_ble_eq_true hc
   rw[ak,ak] at hc'
   have:¬ (((a'.size+b'.size:Nat):Int)>IntKind.i64.max):=by
    have:IntKind.i64.max=9223372036854775807:=by decide
    rw[this,sa,sb];omega
   simp only[binOp,Op.stringOp,if_neg this]
   rfl
  ·simp at h
 all_goals first
  |(simp at h;done)
  |(simp only[Option.some.injEq] at h;subst h;exact ⟨_,by simp[binOp,Op.stringOp,la,lb,gB,nl]<;>rfl,.bool _⟩)
theorem Rep.int_inv {x:AV} {k:IntKind} {n:Int} (h:Rep w I α x (.int k n)):x= .int k n:=by cases h;rfl
theorem Rep.str_inv {x:AV} {s:ByteArray} (h:Rep w I α x (.string s)):∃l,x= .str l:=by cases h;exact ⟨_,rfl⟩
theorem Rep.float_inv {x:AV} {k:FloatKind} {n:Nat} (h:Rep w I α x (.float k n)):False:=by cases h
theorem Rep.complex_inv {x:AV} {k:FloatKind} {n m:Nat} (h:Rep w I α x (.complex k n m)):False:=by cases h
theorem Rep.agg_inv {x:AV} {a:Array Value} (h:Rep w I α x (.agg a)):∃l,x= .agg l:=by cases h;exact ⟨_,rfl⟩
theorem Rep.nilIface_inv {x:AV} (h:Rep w I α x .nilIface):x= .nilIface:=by cases h;rfl
theorem qo {t:TypeId} {x y:AV} {x' y':Value} (hx:Rep w I α x x') (hy:Rep w I α y y')
  (hi:¬ ((∃k a,x= .int k a)∧(∃k a,y= .int k a))) (hs:¬ ((∃a,x= .str a)∧(∃a,y= .str a))):
  (binOp .eql t x' y').run P w=((Op.equal t x' y').run P w).andThen fun b w'=> .ok (.bool b) w':=by
 unfold binOp
 split<;>first
  |(exact absurd ⟨⟨_,_,hx.int_inv⟩,⟨_,_,hy.int_inv⟩⟩ hi)
  |(exact hx.float_inv.elim)
  |(exact hx.complex_inv.elim)
  |(exact absurd ⟨hx.str_inv,hy.str_inv⟩ hs)
  |simp_all
theorem qp {t:TypeId} {x y:AV} {x' y':Value} (hx:Rep w I α x x') (hy:Rep w I α y y')
  (hi:¬ ((∃k a,x= .int k a)∧(∃k a,y= .int k a))) (hs:¬ ((∃a,x= .str a)∧(∃a,y= .str a))):
  (binOp .neq t x' y').run P w=((Op.equal t x' y').run P w).andThen fun b w'=> .ok (.bool (!b)) w':=by
 unfold binOp
 split<;>first
  |(exact absurd ⟨⟨_,_,hx.int_inv⟩,⟨_,_,hy.int_inv⟩⟩ hi)
  |(exact hx.float_inv.elim)
  |(exact hx.complex_inv.elim)
  |(exact absurd ⟨hx.str_inv,hy.str_inv⟩ hs)
  |simp_all
theorem nn {op:BinOp} {t:TypeId} {xo yo:Operand} {x y:AV} {x' y':Value} (hx:Rep w I α x x') (hy:Rep w I α y y')
  (h1:¬ ((∃l,x= .agg l)∧(∃l,y= .agg l))) (h2:¬ (x= .nilIface∧y= .nilIface)):(eqGuard op t xo yo x' y').run P w= .ok () w:=by
 have key:∀op,op= .eql∨op= .neq→(eqGuard op t xo yo x' y').run P w= .ok () w:=by
  intro op hop
  cases x' with
  |nilIface=>
   have e1:=hx.nilIface_inv
   cases y' with
   |nilIface=>exact absurd ⟨e1,hy.nilIface_inv⟩ h2
   |_=>rcases hop with rfl|rfl<;>simp[eqGuard]
  |agg l=>
   have e1:=hx.agg_inv
   cases y' with
   |agg l'=>exact absurd ⟨e1,hy.agg_inv⟩ h1
   |_=>rcases hop with rfl|rfl<;>simp[eqGuard]
  |_=>rcases hop with rfl|rfl<;>simp[eqGuard]
 cases op<;>first
  |exact key _ (.inl rfl)
  |exact key _ (.inr rfl)
  |simp[eqGuard]
theorem qq {op:BinOp} {t:TypeId} {xo yo:Operand} {x y:AV} {x' y':Value} {v:AV} (hx:Rep w I α x x') (hy:Rep w I α y y')
  (h:a6 P op t xo yo x y=some v):
  ∃v',(do eqGuard op t xo yo x' y';binOp op t x' y':Sem Value).run P w= .ok v' w∧Rep w I α v v':=by
 by_cases hi:(∃k a,x= .int k a)∧(∃k a,y= .int k a)
 ·obtain ⟨⟨k,a,rfl⟩,⟨k',b,rfl⟩⟩:=hi
  cases hx;cases hy
  exact qm h
 by_cases hs:(∃a,x= .str a)∧(∃a,y= .str a)
 ·obtain ⟨⟨a,rfl⟩,⟨b,rfl⟩⟩:=hs
  cases hx with
  |str _ a' ha=>cases hy with
   |str _ b' hb=>exact qn ha hb h
 have heq:∀ (r:Bool),bn P 16 t x y=some r→(op= .eql∧v= .bool r∨op= .neq∧v= .bool (!r))→(eqGuard op t xo yo x' y').run P w= .ok () w→
   ∃v',(do eqGuard op t xo yo x' y';binOp op t x' y':Sem Value).run P w= .ok v' w∧Rep w I α v v':=by
  intro r hr hop hg
  have hrun:=ql hx hy hr
  rcases hop with ⟨rfl,rfl⟩|⟨rfl,rfl⟩
  ·refine ⟨.bool r, ?_,.bool _⟩
   simp only[Sem.run_bind,hg,Result.andThen_ok]
   rw[qo hx hy hi hs,hrun];rfl
  ·refine ⟨.bool (!r), ?_,.bool _⟩
   simp only[Sem.run_bind,hg,Result.andThen_ok]
   rw[qp hx hy hi hs,hrun];rfl
 unfold a6 at h
 split at h
 ·exact absurd ⟨⟨_,_,rfl⟩,⟨_,_,rfl⟩⟩ hi
 ·exact absurd ⟨⟨_,_,rfl⟩,⟨_,_,rfl⟩⟩ hi
 ·exact absurd ⟨⟨_,_,rfl⟩,⟨_,_,rfl⟩⟩ hi
 ·exact absurd ⟨⟨_,rfl⟩,⟨_,rfl⟩⟩ hs
 ·split at h
  ·simp at h
  ·rename_i hgd
   simp only[Option.map_eq_some_iff] at h
   obtain ⟨r,hr,rfl⟩:=h
   obtain ⟨xs',rfl,_⟩:=Rep.agg_iff.1 hx
   obtain ⟨ys',rfl,_⟩:=Rep.agg_iff.1 hy
   exact heq r hr (.inl ⟨rfl,rfl⟩) (run_eqGuard_agg w _ t _ _ _ _ (by simpa using hgd))
 ·split at h
  ·simp at h
  ·rename_i hgd
   simp only[Option.map_eq_some_iff] at h
   obtain ⟨r,hr,rfl⟩:=h
   obtain ⟨xs',rfl,_⟩:=Rep.agg_iff.1 hx
   obtain ⟨ys',rfl,_⟩:=Rep.agg_iff.1 hy
   exact heq r hr (.inr ⟨rfl,rfl⟩) (run_eqGuard_agg w _ t _ _ _ _ (by simpa using hgd))
 ·split at h
  ·rename_i hc
   simp only[Option.map_eq_some_iff] at h
   obtain ⟨r,hr,rfl⟩:=h
   cases hx;cases hy
   refine heq r hr (.inl ⟨rfl,rfl⟩) ?_
   rcases Bool.or_eq_true_iff.1 hc with hc|hc<;>(unfold e6 at hc;split at hc<;>first|(simp at hc;done)|simp[eqGuard])
  ·simp at h
 ·split at h
  ·rename_i hc
   simp only[Option.map_eq_some_iff] at h
   obtain ⟨r,hr,rfl⟩:=h
   cases hx;cases hy
   refine heq r hr (.inr ⟨rfl,rfl⟩) ?_
   rcases Bool.or_eq_true_iff.1 hc with hc|hc<;>(unfold e6 at hc;split at hc<;>first|(simp at hc;done)|simp[eqGuard])
  ·simp at h
 ·rename_i h1 h2
  simp only[Option.map_eq_some_iff] at h
  obtain ⟨r,hr,rfl⟩:=h
  refine heq r hr (.inl ⟨rfl,rfl⟩) (nn hx hy ?_ ?_)
  ·rintro ⟨⟨l,rfl⟩,⟨l',rfl⟩⟩;exact (h1 _ _ rfl rfl).elim
  ·rintro ⟨rfl,rfl⟩;exact (h2 rfl rfl).elim
 ·rename_i h1 h2
  simp only[Option.map_eq_some_iff] at h
  obtain ⟨r,hr,rfl⟩:=h
  refine heq r hr (.inr ⟨rfl,rfl⟩) (nn hx hy ?_ ?_)
  ·rintro ⟨⟨l,rfl⟩,⟨l',rfl⟩⟩;exact (h1 _ _ rfl rfl).elim
  ·rintro ⟨rfl,rfl⟩;exact (h2 rfl rfl).elim
 ·simp at h
theorem qr {op:UnOp} {x:AV} {x':Value} {v:AV} (hx:Rep w I α x x') (h:jC op x=some v):∃v',(Op.unary op x').run P w= .ok v' w∧Rep w I α v v':=by
 unfold jC at h
 split at h
 ·cases hx;simp at h;subst h;exact ⟨_,by simp[Op.unary,Op.intArith,dq],.int _ _⟩
 ·cases hx;simp only[Option.some.injEq] at h;subst h;exact ⟨_,by simp[Op.unary,Op.intBits,dq],.int _ _⟩
 ·cases hx;simp at h;subst h;exact ⟨_,by simp[Op.unary],.bool _⟩
 ·simp at h
end
end Go.Proofs.Abs
/- Loads, addresses, parts, aggregates, new variables. -/
namespace Go.Proofs.Abs
open Go
section
variable {P:Program} {G:ae} {call:af} {w:World} {I:Nat→Prop} {α:Nat→Option Nat} {H:aa} {rid nx:Nat}
theorem qs {t:TypeId} {x:AV} {x':Value} {e:Eff} (c:Ctx P G call w I α H rid nx) (hx:Rep w I α x x') (h:bS P t x G=some e):
  aX P G call w I α H rid nx (Instr.loadAt t x') e:=by
 unfold bS at h
 split at h
 ·rename_i id off
  simp only[Option.some.injEq] at h;subst h
  cases hx with
  | ptr _ _ b hb=>
   refine cC c fun blk b' e' hg hα hB hk=> ?_
   rw[hb] at hα;cases hα
   split at hk
   ·simp only[Option.map_eq_some_iff] at hk
    obtain ⟨v,hv,rfl⟩:=hk
    obtain ⟨v',h1,h2⟩:=hB.row.part (P:=P) hv
    rw[Nat.zero_add] at h1
    exact ce c (by simp[Instr.loadAt,Instr.sureAddr,h1]) h2
   ·simp at hk
 ·simp only[Option.map_eq_some_iff] at h
  obtain ⟨v,hv,rfl⟩:=h
  obtain ⟨b,base,rfl,hI,hr⟩:=hx.fptr_row
  obtain ⟨v',h1,h2⟩:=hr.part (P:=P) hv
  exact ce c (by simp[Instr.loadAt,Instr.sureAddr,h1]) h2
 ·rename_i g off
  split at h
  ·rename_i l hl
   simp only[Option.map_eq_some_iff] at h
   obtain ⟨v,hv,rfl⟩:=h
   cases hx
   have hr:Row w I α g 0 l:=fun j x hx=>by
    obtain ⟨y,h1,h2⟩:=(c.rel.glob g l hl).2 j x hx
    exact ⟨y,by rw[Nat.zero_add];exact h1,h2⟩
   obtain ⟨v',h1,h2⟩:=hr.part (P:=P) hv
   rw[Nat.zero_add] at h1
   exact ce c (by simp[Instr.loadAt,Instr.sureAddr,h1]) h2
  ·simp at h
 ·simp at h
theorem np {t:TypeId} {f:Nat} {fd:Field} (h:d9 P t f=some fd):∃fs,P.underlying t=some (.struct fs)∧fs[f]? =some fd:=by
 unfold d9 at h
 split at h
 ·rename_i fs ht;exact ⟨fs,ht,h⟩
 ·simp at h
theorem qt {t:TypeId} {x:AV} {x':Value} {f:Nat} {v:AV} (hx:Rep w I α x x') (h:f9 P t x f=some v):
  ∃v',(Instr.fieldAt t x' f).run P w= .ok v' w∧Rep w I α v v':=by
 unfold f9 at h
 split at h
 ·rename_i fd hfd
  obtain ⟨fs,ht,hf⟩:=np hfd
  split at h
  ·rename_i n hn
   have hsz:=a9 (w:=w) hn
   have main:∀b o,x'= .pointer (some ⟨b,o,none⟩)→(Instr.fieldAt t x' f).run P w= .ok (.pointer (some ⟨b,o+fd.offset,none⟩)) w:=by
    rintro b o rfl
    simp[Instr.fieldAt,ad ht,hf,Instr.sureAddr,fieldPlace,hsz,add_lit]
   split at h
   ·simp only[Option.some.injEq] at h;subst h
    cases hx with
    |ptr _ _ b hb=>exact ⟨_,main b _ rfl,.ptr _ _ b hb⟩
   ·rename_i cs off
    simp only[Option.some.injEq] at h;subst h
    cases hx with
    |fptr _ _ b base g hI hg hr=>exact ⟨_,main b _ rfl,by rw[Nat.add_assoc];exact .fptr cs _ b base g hI hg hr⟩
   ·rename_i g off
    simp only[Option.some.injEq] at h;subst h
    cases hx
    exact ⟨_,main g _ rfl,.gptr _ _⟩
   ·simp at h
  ·simp at h
 ·simp at h
theorem qu {t:TypeId} {x:AV} {x':Value} {v:AV} (hx:Rep w I α x x') (h:jI P t x=some v):
  ∃v',(Instr.arrayAt t x').run P w= .ok v' w∧Rep w I α v v':=by
 unfold jI at h
 split at h
 ·rename_i n e own id off len sz ht
  split at h
  ·rename_i hn
   simp only[Option.some.injEq] at h;subst h
   have hn:=Nat.le_of_ble_eq_true hn
   cases hx with
   |rsl _ _ _ _ _ cap b hb hc ho=>
    refine ⟨.pointer (some ⟨b,off,none⟩), ?_,.ptr _ _ b hb⟩
    simp[Instr.arrayAt,ad ht]
    intro h';omega
  ·cases h
 ·rename_i n e f es ht
  split at h
  ·rename_i hb
   simp only[Bool.and_eq_true] at hb
   simp only[Option.some.injEq] at h;subst h
   have hn:=Nat.le_of_ble_eq_true hb.1
   have h0:0<n:=by simpa using hb.2.1
   have hone:=hb.2.2
   rw[ak] at hn
   cases hx with
   | fsl _ _ a len cap sz b base g hl hc hf ha hI hs hg hr=>
    have hne:es≠[]:=fun h=>by subst h;simp at hn;omega
    have ha':=gw hl hc ha hne
    subst ha'
    have hcell:∀ (l:List AV),aR l=true→∀e∈l,e.cells=[e]:=by
     intro l
     induction l with
     |nil=>intro _ e he;cases he
     |cons a t ih=>
      intro h e he
      simp only[aR,Bool.and_eq_true] at h
      rcases List.mem_cons.1 he with rfl|he
      ·cases e<;>first|rfl|(simp[AV.one] at h)
      ·exact ih h.2 e he
    have hsz:sz=1:=by
     obtain ⟨x,hx⟩:=List.exists_mem_of_ne_nil es hne
     rw[←hs x hx,hcell es hone x hx];rfl
    subst hsz
    refine ⟨.pointer (some ⟨b,base,none⟩), ?_,.fptr es 0 b base (fun j=>g j 0) (hI hne) (fun j c hc'=> ?_) (fun j c hc'=> ?_)⟩
    ·simp[Instr.arrayAt,ad ht]
     intro h';omega
    ·have:=hg j c 0 c hc' (by rw[hcell es hone c (List.mem_of_getElem? hc')];rfl)
     simpa using this
    ·exact hr j c 0 c hc' (by rw[hcell es hone c (List.mem_of_getElem? hc')];rfl)
  ·cases h
 ·cases h
theorem qv {t:TypeId} {x i:AV} {x' i':Value} {v:AV} (hx:Rep w I α x x') (hi:Rep w I α i i') (h:c7 P t x i=some v):
  ∃v',(Instr.indexAt t x' i').run P w= .ok v' w∧Rep w I α v v':=by
 unfold c7 at h
 cases hn:ck i with
 |none=>simp[hn] at h
 | some n=>
  simp only[hn,Option.bind_eq_bind,Option.bind_some] at h
  have hi':∃k,i'= .int k n:=by
   unfold ck at hn
   split at hn
   ·simp at hn;subst hn;cases hi;exact ⟨_,rfl⟩
   ·simp at hn
  obtain ⟨k,rfl⟩:=hi'
  split at h
  ·rename_i m e ht
   cases hsz:aE P e with
   |none=>simp[hsz] at h
   | some sz=>
    simp only[hsz,Option.bind_some] at h
    split at h
    ·rename_i hlt
     have hlt:n<m:=by simpa using hlt
     have main:∀b o,x'= .pointer (some ⟨b,o,none⟩)→(Instr.indexAt t x' (.int k n)).run P w= .ok (.pointer (some ⟨b,o+n*sz,none⟩)) w:=by
      rintro b o rfl
      have h1:(0:Int)≤n∧(n:Int)<m:=by omega
      simp[Instr.indexAt,asIntOf,ad ht,Instr.sureAddr,h1,a9 hsz,add_lit]
      intro hh;omega
     split at h
     ·simp only[Option.some.injEq] at h;subst h
      cases hx with
      |ptr _ _ b hb=>exact ⟨_,main b _ rfl,.ptr _ _ b hb⟩
     ·rename_i cs off
      simp only[Option.some.injEq] at h;subst h
      cases hx with
      |fptr _ _ b base g hI hg hr=>exact ⟨_,main b _ rfl,by rw[Nat.add_assoc];exact .fptr cs _ b base g hI hg hr⟩
     ·rename_i g off
      simp only[Option.some.injEq] at h;subst h
      cases hx
      exact ⟨_,main g _ rfl,.gptr _ _⟩
     ·simp at h
    ·simp at h
  ·rename_i e ht
   cases hsz:aE P e with
   |none=>simp[hsz] at h
   | some sz=>
    simp only[hsz,Option.bind_some] at h
    have main:∀b o len cap,x'= .slice (some ⟨b,o,none⟩) len cap→n<len→(Instr.indexAt t x' (.int k n)).run P w= .ok (.pointer (some ⟨b,o+n*sz,none⟩)) w:=by
     rintro b o len cap rfl hlt
     have h1:(0:Int)≤n∧(n:Int)<len:=by omega
     simp[Instr.indexAt,asIntOf,ad ht,h1,a9 hsz,add_lit]
     intro hh;omega
    split at h
    ·rename_i es
     split at h
     ·rename_i el hel
      rw[cq] at hel
      split at h
      ·rename_i hc
       have hc:el.cells.length=sz:=by rw[ak] at hc;exact beq_iff.1 hc
       simp only[Option.some.injEq] at h;subst h
       obtain ⟨b,base,len,cap,rfl,hlen,hI,hrow⟩:=hx.fsl_elem hel hc
       have hlt:n<len:=by
        rw[hlen]
        rcases Nat.lt_or_ge n es.length with h'|h'
        ·exact h'
        ·rw[List.getElem?_eq_none h'] at hel;cases hel
       refine ⟨_,main b base len cap rfl hlt, ?_⟩
       have:∀j,j<el.cells.length→∃y,w.cell? ⟨b,base+n*sz+j,none⟩=some y:=fun j hj=>by
        obtain ⟨y,h1,_⟩:=hrow j el.cells[j] (by simp[hj])
        exact ⟨y,h1⟩
       have hg:∀j c,el.cells[j]? =some c→w.cell? ⟨b,base+n*sz+j,none⟩=some ((w.cell? ⟨b,base+n*sz+j,none⟩).getD undef):=fun j c hj=>by
        obtain ⟨y,h1,_⟩:=hrow j c hj
        rw[h1];rfl
       have hr:∀j c,el.cells[j]? =some c→Rep w I α c ((w.cell? ⟨b,base+n*sz+j,none⟩).getD undef):=fun j c hj=>by
        obtain ⟨y,h1,h2⟩:=hrow j c hj
        rw[h1];exact h2
       exact .fptr el.cells 0 b (base+n*sz) (fun j=>(w.cell? ⟨b,base+n*sz+j,none⟩).getD undef) hI hg hr
      ·simp at h
     ·simp at h
    ·split at h
     ·rename_i hc
      simp only[Bool.and_eq_true] at hc
      have hlt:=hc.1
      simp only[Option.some.injEq] at h;subst h
      cases hx with
      |rsl _ _ _ _ _ cap b hb hcap ho=>exact ⟨_,main b _ _ _ rfl (by simpa using hlt),.ptr _ _ b hb⟩
     ·simp at h
    ·simp at h
  ·simp at h
theorem qw {t:TypeId} {x i:AV} {x' i':Value} {v:AV} (hx:Rep w I α x x') (hi:Rep w I α i i') (h:ga P t x i=some v):
  ∃v',(Instr.index t x' i').run P w= .ok v' w∧Rep w I α v v':=by
 unfold ga at h
 cases hn:ck i with
 |none=>simp[hn] at h
 | some n=>
  simp only[hn,Option.bind_eq_bind,Option.bind_some] at h
  have hi':∃k,i'= .int k n:=by
   unfold ck at hn
   split at hn
   ·simp at hn;subst hn;cases hi;exact ⟨_,rfl⟩
   ·simp at hn
  obtain ⟨k,rfl⟩:=hi'
  split at h
  ·rename_i m e cs ht
   split at h
   ·rename_i hlt
    have hlt:n<m:=by simpa using hlt
    cases hsz:aE P e with
    |none=>simp[hsz] at h
    |some sz=>
     simp only[hsz,Option.bind_some] at h
     obtain ⟨cs',rfl,hcs⟩:=Rep.agg_iff.1 hx
     obtain ⟨v',h1,h2⟩:=hcs.part (P:=P) h
     have hb:(0:Int)≤n∧(n:Int)<m:=by omega
     exact ⟨v',by simp[Instr.index,asIntOf,ad ht,a9 hsz];rw[if_pos hlt];simpa using h1,h2⟩
   ·simp at h
  ·rename_i s ht
   simp only[Option.map_eq_some_iff] at h
   obtain ⟨b,hb,rfl⟩:=h
   rw[cq] at hb
   cases hx with
   | str _ bs hbs=>
    have:bs[n]? =some b:=by
     have hlt:n<bs.size:=by
      have:bs.size=s.length:=by rw[←hbs];exact Array.length_toList.symm
      rcases Nat.lt_or_ge n s.length with h'|h'
      ·omega
      ·rw[List.getElem?_eq_none h'] at hb;cases hb
     rw[ByteArray.getElem?_lt' bs n hlt]
     congr 1
     rw[←hbs] at hb
     simp only[Array.getElem?_toList] at hb
     have h2:bs.data[n]? =some bs[n]:=by
      rw[Array.getElem?_eq_getElem (show n<bs.data.size from hlt)];rfl
     rw[h2] at hb;cases hb;rfl
    exact ⟨_,by simp[Instr.index,asIntOf,ad ht,this],.int _ _⟩
  ·simp at h
theorem qx {t:TypeId} {cs:List AV} {x':Value} {f:Nat} {fd:Field} {v:AV} (hx:Rep w I α (.agg cs) x') (hf:d9 P t f=some fd) (h:a5 P fd.type cs fd.offset=some v):
  ∃v',(Instr.field t x' f).run P w= .ok v' w∧Rep w I α v v':=by
 obtain ⟨fs,ht,hf⟩:=np hf
 obtain ⟨cs',rfl,hcs⟩:=Rep.agg_iff.1 hx
 obtain ⟨v',h1,h2⟩:=hcs.part (P:=P) h
 exact ⟨v',by simp[Instr.field,ad ht,hf,asAgg];simpa using h1,h2⟩
theorem qy {x:AV} {x':Value} {xt t:TypeId} {ok:Bool} {v:AV} (hx:Rep w I α x x') (h:jP P x t ok=some v):
  ∃v',(Instr.typeAssert x' xt t ok).run P w= .ok v' w∧Rep w I α v v':=by
 unfold jP at h
 split at h
 ·simp at h
 ·rename_i d hni ht
  have zero:∀z,bt P t=some z→∃z',(zeroValue t).run P w= .ok z' w∧Rep w I α (.tuple [z,.bool false]) (.tuple #[z',.bool false]):=fun z hz=>by
   obtain ⟨i,z',h1,h2,h3⟩:=cQ hz
   exact ⟨z',cR h1 h2,Rep.tuple_iff.2 ⟨_,rfl,.cons (cr h3) (.cons (.bool _) .nil)⟩⟩
  split at h
  ·rename_i t' y
   cases hx with
   | iface _ _ y' hy=>
    by_cases e:t'=t
    ·subst e
     simp only[if_true,Option.some.injEq] at h
     subst h
     cases ok with
     |true=>
      refine ⟨.tuple #[y',.bool true], ?_,Rep.tuple_iff.2 ⟨_,rfl,.cons hy (.cons (.bool _) .nil)⟩⟩
      cases d<;>first|(exact (hni _ rfl).elim)|simp[Instr.typeAssert,ad ht]
     |false=>
      refine ⟨y', ?_,hy⟩
      cases d<;>first|(exact (hni _ rfl).elim)|simp[Instr.typeAssert,ad ht]
    ·rw[if_neg e] at h
     split at h
     ·rename_i hok
      simp only[Option.map_eq_some_iff] at h
      obtain ⟨z,hz,rfl⟩:=h
      obtain ⟨z',h1,h2⟩:=zero z hz
      refine ⟨_, ?_,h2⟩
      cases d<;>first|(exact (hni _ rfl).elim)|simp[Instr.typeAssert,ad ht,e,hok,h1]
     ·simp at h
  ·split at h
   ·rename_i hok
    simp only[Option.map_eq_some_iff] at h
    obtain ⟨z,hz,rfl⟩:=h
    cases hx
    obtain ⟨z',h1,h2⟩:=zero z hz
    refine ⟨_, ?_,h2⟩
    cases d<;>first|(exact (hni _ rfl).elim)|simp[Instr.typeAssert,ad ht,hok,h1]
   ·simp at h
  ·simp at h
 ·simp at h
theorem qz {w':World} {I':Nat→Prop} {α':Nat→Option Nat} {b:Nat} {c:Array Value} {e:TypeId} {fr:Nat × Nat} {l:List AV} (h:w'.heap[b]? =some (.cells c e fr)) (hl:RepL w' I' α' l c.toList):
  Row w' I' α' b 0 l:=by
 intro j x hx
 obtain ⟨y,h1,h2⟩:=hl.get hx
 refine ⟨y, ?_,h2⟩
 rw[Nat.zero_add]
 simp only[World.cell?,h]
 simpa using h1
theorem j5 {w':World} {I':Nat→Prop} {α':Nat→Option Nat} {b:Nat} {c:Array Value} {e:TypeId} {l:List AV} (h:w'.heap[b]? =some (.cells c e (0,0))) (hl:RepL w' I' α' l c.toList):
  BRel w' I' α' b (.cells l):=by
 have hc:l.length=c.size:=by have:=hl.1;simpa using this
 exact ⟨c,e,h,by omega,by rw[hc,←Array.length_toList,List.take_length];exact hl⟩
theorem nq {t:TypeId} {x:AV} {x':Value} {s:Sem Value} (c:Ctx P G call w I α H rid nx) (hx:Rep w I α x x')
  (hs:s.run P w= .ok (.pointer (some ⟨w.heap.size,0,none⟩)) {w with heap:=w.heap.push (.cells x'.cells t)}):
  aX P G call w I α H rid nx s (.new (.cells x.cells) fun id=> .ptr id 0):=by
 refine gA c (w':={w with heap:=w.heap.push (.cells x'.cells t)}) (by rw[hs];rfl) rfl (fun α' hα rel=> ?_) (fun α' hα=> .ptr _ _ _ hα)
 refine j5 (c:=x'.cells) (e:=t) (by simp) ?_
 have ev:Ev w I α H {w with heap:=w.heap.push (.cells x'.cells t)} I α H:=db rfl I (fun _ h=>h) (fun _ h=> .inl h)
 have:=hx.cells.ev c.rel ev
 exact ⟨this.1,fun i a b h1 h2=>(this.2 i a b h1 h2).mono (fun _ h=>h) hα (fun _ _ _=>rfl) (fun _ _ _=>rfl)⟩
theorem qA {t:TypeId} {z:AV} (c:Ctx P G call w I α H rid nx) (hz:bt P t=some z):
  aX P G call w I α H rid nx (Instr.alloc t true (.tuple #[])) (.new (.cells z.cells) fun id=> .ptr id 0):=by
 obtain ⟨i,v,h1,h2,h3⟩:=cQ hz
 exact nq (t:=t) c (cr h3) (by simp[Instr.alloc,cR h1 h2,newVar,newRow])
end
end Go.Proofs.Abs
/- Stores; rows as sources; append. -/
namespace Go.Proofs.Abs
open Go
theorem iI:∀ {l:List AV},aR l=true→∀a∈l,a.one=true
 |[],_,_,h=>by cases h
 |x::t,h,a,ha=>by
  simp only[aR,Bool.and_eq_true] at h
  rcases List.mem_cons.1 ha with rfl|ha
  ·exact h.1
  ·exact iI h.2 a ha
theorem nr:∀ {sz:Nat} {l:List AV},bf sz l=true→∀a∈l,a.cells.length=sz
 |_,[],_,_,h=>by cases h
 |sz,x::t,h,a,ha=>by
  simp only[bf,Bool.and_eq_true] at h
  rcases List.mem_cons.1 ha with rfl|ha
  ·have:=beq_iff.1 h.1;rwa [ak] at this
  ·exact nr h.2 a ha
theorem dr:∀ {sz:Nat} {l:List AV},(∀a∈l,a.cells.length=sz)→(flat l).length=l.length*sz
 |_,[],_=>by simp[flat]
 |sz,x::t,h=>by
  simp only[flat,List.length_append,List.length_cons]
  rw[h x (by simp),dr (fun a ha=>h a (by simp[ha])),Nat.add_mul];omega
theorem j6:∀ {sz:Nat} {l:List AV},0<sz→(∀a∈l,a.cells.length=sz)→∀ (k:Nat) x,(flat l)[k]? =some x→∃e,l[k/sz]? =some e∧e.cells[k%sz]? =some x
 |_,[],_,_,k,x,h=>by simp[flat] at h
 | sz,y::t,hp,hs,k,x,h=>by
  have hy:=hs y (by simp)
  simp only[flat] at h
  by_cases hk:k<sz
  ·rw[List.getElem?_append_left (by omega)] at h
   exact ⟨y,by simp[Nat.div_eq_of_lt hk],by rw[Nat.mod_eq_of_lt hk];exact h⟩
  ·have hk:=Nat.le_of_not_lt hk
   rw[List.getElem?_append_right (by omega),hy] at h
   obtain ⟨e,h1,h2⟩:=j6 hp (fun a ha=>hs a (by simp[ha])) (k-sz) x h
   have e1:k/sz=(k-sz)/sz+1:=by rw[Nat.div_eq k sz,if_pos ⟨hp,hk⟩]
   have e2:k%sz=(k-sz)%sz:=Nat.mod_eq_sub_mod hk
   exact ⟨e,by rw[e1];simpa using h1,by rw[e2];exact h2⟩
section
variable {P:Program} {G:ae} {call:af} {w:World} {I:Nat→Prop} {α:Nat→Option Nat} {H:aa} {rid nx:Nat}
theorem RepL.take {a:List AV} {v:List Value} (h:RepL w I α a v) (n:Nat):RepL w I α (a.take n) (v.take n):=
 ⟨by simp[h.1],fun i x y h1 h2=>by
  by_cases hi:i<n
  ·rw[List.getElem?_take_of_lt hi] at h1 h2;exact h.2 i x y h1 h2
  ·rw[List.getElem?_eq_none (by simp;omega)] at h1;cases h1⟩
theorem RepL.drop {a:List AV} {v:List Value} (h:RepL w I α a v) (n:Nat):RepL w I α (a.drop n) (v.drop n):=
 ⟨by simp[h.1],fun i x y h1 h2=>by
  rw[List.getElem?_drop] at h1 h2;exact h.2 _ x y h1 h2⟩
theorem nt {w':World} (h:w'.heap=w.heap) (a:Addr):w'.cell? a=w.cell? a:=by simp[World.cell?,h]
theorem nu {w':World} {α':Nat→Option Nat} {b:Nat} {c:Array Value} {e:TypeId} {l cs l':List AV} {vs:List Value} {o:Nat} (hl:l.length≤c.size) (hlc:RepL w' I α' l (c.toList.take l.length))
  (hs:splice l o cs=some l') (hcs:RepL w' I α' cs vs) (hw:w'.heap[b]? =some (.cells (c.toList.take o++vs++c.toList.drop (o+vs.length)).toArray e (0,0))):BRel w' I α' b (.cells l'):=by
 obtain ⟨e1,e2⟩:=cP _ _ _ _ hs
 have hlen:=qk hs
 refine ⟨_,e,hw, ?_, ?_⟩
 ·rw[hlen]
  have hv:=hcs.1
  rcases e2 with e2|e2
  ·subst e2;simp at hv;have:vs=[]:=List.eq_nil_of_length_eq_zero hv.symm;subst this;simpa using hl
  ·simp;omega
 ·rw[hlen]
  have hv:=hcs.1
  rcases e2 with e2|e2
  ·subst e2
   have:vs=[]:=List.eq_nil_of_length_eq_zero (by simpa using hv.symm)
   subst this
   simp only[List.append_nil,List.length_nil,Nat.add_zero,List.take_append_drop] at e1⊢
   rw[e1];exact hlc
  ·have k1:=hlc.take o
   have k2:=hlc.drop (o+cs.length)
   have k3:=(k1.append hcs).append k2
   rw[e1]
   refine ⟨by simp;omega,fun i x y h1 h2=>k3.2 i x y h1 ?_⟩
   rw[←h2]
   have hi:i<l.length:=by
    rcases Nat.lt_or_ge i l.length with h'|h'
    ·exact h'
    ·rw[←e1] at h1;rw[List.getElem?_eq_none (by omega)] at h1;cases h1
   simp only[List.take_take]
   rw[List.getElem?_take_of_lt hi]
   have ho:min o l.length=o:=by omega
   rw[ho]
   have hoc:min o c.size=o:=by omega
   by_cases h5:i<o+vs.length
   ·have L:∀ (A C:List Value),i<A.length→(A++C)[i]? =A[i]? :=fun A C h=>List.getElem?_append_left h
    exact (L (List.take o c.toList++vs) _ (by simp[hoc];omega)).trans (L (List.take o c.toList++vs) _ (by simp[hoc];omega)).symm
   ·have R:∀ (A C:List Value),A.length≤i→(A++C)[i]? =C[i-A.length]? :=fun A C h=>List.getElem?_append_right h
    refine (R (List.take o c.toList++vs) _ (by simp[hoc];omega)).trans (Eq.trans ?_ (R (List.take o c.toList++vs) _ (by simp[hoc];omega)).symm)
    simp only[List.length_append,List.length_take,Array.length_toList]
    rw[List.getElem?_drop,List.getElem?_drop,List.getElem?_take_of_lt (by omega)]
    congr 1
    omega
theorem j7 {b id o:Nat} {c:Array Value} {e:TypeId} {l cs l':List AV} {vs:List Value} {v:AV} {v':Value} (cx:Ctx P G call w I α H rid nx) (hg:hget H id=some (.cells l)) (hα:α id=some b)
  (hB:w.heap[b]? =some (.cells c e (0,0))) (hl:l.length≤c.size) (hlc:RepL w I α l (c.toList.take l.length)) (hs:splice l o cs=some l') (hcs:RepL w I α cs vs)
  (hsz:o+vs.length≤c.size)
  (hv:∀w',Rel G w' I α (ao H id)→Ev w I α H w' I α (ao H id)→Rep w' I α v v'):
  Post G w I α H rid nx v (an H id (.cells l')) nx v' (w.setRow b (c.toList.take o++vs++c.toList.drop (o+vs.length)).toArray):=by
 refine ew cx hg hα (by simp) (fun k hk=>setRow_other w b k _ hk) ?_ (fun rel ev=> ?_) (fun rel ev=>hv _ rel ev)
 ·simp only[World.shape?,setRow_heap w b c _ e _ hB,hB]
  simp;omega
 ·exact nu hl (hlc.ev cx.rel ev) hs (hcs.ev cx.rel ev) (setRow_heap w b c _ e _ hB)
theorem qB {t:TypeId} {x y:AV} {x' y':Value} {e:Eff} (c:Ctx P G call w I α H rid nx) (hx:Rep w I α x x') (hy:Rep w I α y y') (h:d7 P t x y=some e):
  iH P G call w I α H rid nx (Instr.storeAt t x' y') e:=by
 unfold d7 at h
 split at h
 ·rename_i id off
  split at h
  ·rename_i n hn
   split at h
   ·rename_i hc
    simp only[Bool.and_eq_true] at hc
    have hlen:y.cells.length=n:=by have:=beq_iff.1 hc.1;rwa [ak] at this
    simp only[Option.some.injEq] at h;subst h
    cases hx with
    | ptr _ _ b hb=>
     refine fw c fun blk b' blk' v hg hα hB hk=> ?_
     rw[hb] at hα;cases hα
     split at hk
     ·rename_i l
      simp only[Option.map_eq_some_iff,Prod.mk.injEq] at hk
      obtain ⟨l',hs,rfl,rfl⟩:=hk
      obtain ⟨cc,ee,h1,h2,h3⟩:=hB
      have hcs:=hy.cells
      have hvs:y'.cells.size=n:=by rw[←hlen,←Array.length_toList];exact hcs.1.symm
      have hone:∀u∈y'.cells.toList,u.oneCell'=true:=fun u hu=>by
       obtain ⟨i,hi⟩:=List.getElem?_of_mem hu
       have hi2:i<y.cells.length:=by
        rw[hcs.1]
        rcases Nat.lt_or_ge i y'.cells.toList.length with h'|h'
        ·exact h'
        ·rw[List.getElem?_eq_none h'] at hi;cases hi
       exact (hcs.2 i y.cells[i] u (by simp[hi2]) hi).one (iI hc.2 _ (List.getElem_mem hi2))
      obtain ⟨_,e2⟩:=cP _ _ _ _ hs
      by_cases hz:y.cells=[]
      ·have hz':y'.cells.toList=[]:=by have:=hcs.1;rw[hz] at this;exact List.eq_nil_of_length_eq_zero (by simpa using this.symm)
       have hn0:n=0:=by rw[←hlen,hz];rfl
       have hrun:(Instr.storeAt t (.pointer (some ⟨b,off,none⟩)) y').run P w= .ok () w:=by
        simp[Instr.storeAt,Instr.sureAddr,storeVar,a9 hn,hvs,hz',storeCells]
       rw[hrun]
       have hl':l'=l:=by
        obtain ⟨e1,_⟩:=cP _ _ _ _ hs
        rw[e1,hz];simp
       subst hl'
       have hw:w=w.setRow b cc:=(setRow_self w b cc ee _ h1).symm
       refine ew (w':=w) c hg hb rfl (fun _ _=>rfl) rfl (fun _ _=>⟨cc,ee,h1,h2,h3⟩) (fun _ _=>Rep.tuple_iff.2 ⟨_,rfl,.nil⟩)
      ·have hfit:off+y'.cells.toList.length≤cc.size:=by
        rcases e2 with e2|e2
        ·exact absurd e2 hz
        ·rw[←hcs.1];omega
       have hrun:(Instr.storeAt t (.pointer (some ⟨b,off,none⟩)) y').run P w= .ok () (w.setRow b (cc.toList.take off++y'.cells.toList++cc.toList.drop (off+y'.cells.toList.length)).toArray):=by
        have:=run_storeCells_at P b off ee y'.cells.toList 0 cc w h1 (by simpa using hfit) hone
        simp only[Nat.add_zero] at this
        simp only[Instr.storeAt,Instr.sureAddr,storeVar,Sem.run_bind,Sem.run_pure,Result.andThen_ok,a9 hn,hvs]
        rw[if_neg (by simp)]
        simpa using this
       rw[hrun]
       exact j7 c hg hb h1 h2 h3 hs hcs hfit (fun _ _ _=>Rep.tuple_iff.2 ⟨_,rfl,.nil⟩)
     ·simp at hk
   ·simp at h
  ·simp at h
 ·simp at h
theorem nv {w':World} {b off n n' sz:Nat} {f:Nat→Value} (hc:∀j,j<n*sz→w.cell? ⟨b,off+j,none⟩=some (f j)) (hn:n'≤n) (hw:w'.heap=w.heap):
  (loadCells ⟨b,off,none⟩ (n'*sz)).run P w'= .ok (((List.range (n*sz)).map f).take (n'*sz)).toArray w':=by
 have hle:n'*sz≤n*sz:=Nat.mul_le_mul_right _ hn
 rw[run_loadCells w' _ _ f (fun j hj=>by rw[add_lit,nt hw];exact hc j (by omega))]
 congr 2
 rw[←List.map_take,List.take_range,Nat.min_eq_left hle]
theorem fsl_flat {full:Bool} {es:List AV} {x':Value} {sz:Nat} (hx:Rep w I α (.fsl full es) x') (hs:bf sz es=true):
  ∃a cap vs,x'= .slice a es.length cap∧es.length≤cap∧(full=true→cap=es.length)∧RepL w I α (flat es) vs∧vs.length=es.length*sz∧
   ∀n' w',n'≤es.length→w'.heap=w.heap→(Builtin.firstCells sz n' x').run P w'= .ok (vs.take (n'*sz)).toArray w':=by
 have hs':=nr hs
 cases hx with
 | fsl _ _ a len cap sz' b base g hl hc hf ha hI hsz hg hr=>
  subst hl
  by_cases hz:es.length*sz=0
  ·refine ⟨a,cap,[],rfl,hc,hf, ?_,by simpa using hz.symm,fun n' w' hn hw'=> ?_⟩
   ·have:flat es=[]:=List.eq_nil_of_length_eq_zero (by rw[dr hs'];exact hz)
    rw[this];exact .nil
   ·cases a with
    |none=>simp[Builtin.firstCells]
    | some a=>
     have:n'*sz=0:=by
      have:=Nat.mul_le_mul_right sz hn;omega
     simp[Builtin.firstCells,this,loadCells,loadCellsFrom]
  ·have hsz0:0<sz:=Nat.pos_of_ne_zero (fun e=>hz (by simp[e]))
   have hne:es≠[]:=fun e=>hz (by simp[e])
   have hsame:sz'=sz:=by
    obtain ⟨x,hx⟩:=List.exists_mem_of_ne_nil es hne
    rw[←hsz x hx,hs' x hx]
   subst hsame
   obtain rfl:=gw rfl hc ha hne
   have hget:∀k,k<es.length*sz'→∃x y,(flat es)[k]? =some x∧w.cell? ⟨b,base+k,none⟩=some y∧Rep w I α x y:=fun k hk=>by
    have hlt:k<(flat es).length:=by rw[dr hs'];exact hk
    obtain ⟨el,h1,h2⟩:=j6 hsz0 hs' k (flat es)[k] (by simp[hlt])
    refine ⟨(flat es)[k],g (k/sz') (k%sz'),by simp[hlt], ?_,hr _ _ _ _ h1 h2⟩
    have:=hg _ _ _ _ h1 h2
    rwa [show base+k/sz'*sz'+k%sz'=base+k by rw[Nat.add_assoc,Nat.div_add_mod']] at this
   let f:Nat→Value:=fun k=>(w.cell? ⟨b,base+k,none⟩).getD undef
   refine ⟨_,cap,(List.range (es.length*sz')).map f,rfl,hc,hf,⟨by simp[dr hs'],fun i x y h1 h2=> ?_⟩,by simp,fun n' w' hn hw'=> ?_⟩
   ·have hi:i<es.length*sz':=by
     rcases Nat.lt_or_ge i (es.length*sz') with h'|h'
     ·exact h'
     ·rw[List.getElem?_eq_none (by rw[dr hs'];exact h')] at h1;cases h1
    obtain ⟨x',y',e1,e2,hrr⟩:=hget i hi
    rw[e1] at h1;cases h1
    simp[hi,f,e2] at h2
    subst h2;exact hrr
   ·simp only[Builtin.firstCells]
    exact nv (fun j hj=>by
     obtain ⟨_,y',_,e2,_⟩:=hget j hj
     simp[f,e2]) hn hw'
theorem j8:∀ (s:List UInt8),RepL w I α (aw s) (s.map fun b=> .int .u8 b.toNat)
 |[]=> .nil
 |_::t=> .cons (.int _ _) (j8 t)
theorem iJ {m:Result Next} {sz:Nat} {x:AV} {x':Value} {k:Nat→List AV→Option Eff} {e:Eff} (c:Ctx P G call w I α H rid nx) (hx:Rep w I α x x') (h:cm sz x k=some e)
  (hk:∀n cs vs e',k n cs=some e'→RepL w I α cs vs→vs.length=n*sz→(Builtin.lenOf x').run P w= .ok n w→
   (∀n' w',n'≤n→w'.heap=w.heap→(Builtin.firstCells sz n' x').run P w'= .ok (vs.take (n'*sz)).toArray w')→be P G call w I α H rid nx m e'):
  be P G call w I α H rid nx m e:=by
 unfold cm at h
 split at h
 ·rename_i full es
  split at h
  ·rename_i hs
   obtain ⟨a,cap,vs,rfl,hc,hf,h1,h2,h3⟩:=fsl_flat (P:=P) hx hs
   rw[ak] at h
   exact hk _ _ _ _ h h1 h2 (by simp[Builtin.lenOf]) h3
  ·simp at h
 ·cases hx
  exact hk _ _ [] _ h .nil (by simp) (by simp[Builtin.lenOf]) (fun n' w' hn _=>by simp[Builtin.firstCells])
 ·cases hx
  refine hk _ _ [] _ h .nil (by simp) (by simp[Builtin.lenOf]) (fun n' w' hn _=> ?_)
  obtain rfl:n'=0:=Nat.le_zero.1 hn
  simp[Builtin.firstCells,loadCells,loadCellsFrom]
 ·rename_i s
  split at h
  ·rename_i hs
   have hs:sz=1:=beq_iff.1 hs
   subst hs
   cases hx with
   |str _ b hb=>
    rw[ak] at h
    have hsz:b.size=s.length:=by rw[←hb];exact Array.length_toList.symm
    refine hk _ _ _ _ h (j8 s) (by simp) (by simp[Builtin.lenOf,hsz]) (fun n' w' hn _=> ?_)
    simp only[Builtin.firstCells,Sem.run_pure,Nat.mul_one]
    congr 1
    apply Array.ext'
    simp only[Array.toList_map]
    rw[←List.map_take]
    congr 1
    rw[←hb,ByteArray.data_extract]
    simp[List.extract_eq_take_drop]
  ·simp at h
 ·rename_i own id off len sz'
  simp only[Option.some.injEq] at h;subst h
  cases hx with
  | rsl _ _ _ _ _ cap b hb hcap ho=>
   refine cC c fun blk b' e' hg hα hB hkk=> ?_
   rw[hb] at hα;cases hα
   split at hkk
   ·rename_i l
    split at hkk
    ·rename_i cs hcs
     have row:=hB.row
     obtain ⟨e1,e2,e3⟩:=dM _ _ _ _ hcs
     have hget:∀j,j<len*sz→∃x y,cs[j]? =some x∧w.cell? ⟨b,off+j,none⟩=some y∧Rep w I α x y:=fun j hj=>by
      have hlt:off+j<l.length:=by omega
      obtain ⟨y,h1,h2⟩:=row (off+j) l[off+j] (by simp[hlt])
      rw[Nat.zero_add] at h1
      refine ⟨l[off+j],y, ?_,h1,h2⟩
      rw[e1,List.getElem?_take_of_lt hj,List.getElem?_drop];simp[hlt]
     let f:Nat→Value:=fun k=>(w.cell? ⟨b,off+k,none⟩).getD undef
     refine hk _ _ ((List.range (len*sz)).map f) _ hkk ⟨by simp[e2],fun i x y h1 h2=> ?_⟩ (by simp) (by simp[Builtin.lenOf]) (fun n' w' hn hw'=> ?_)
     ·have hi:i<len*sz:=by
       rcases Nat.lt_or_ge i (len*sz) with h'|h'
       ·exact h'
       ·rw[List.getElem?_eq_none (by omega)] at h1;cases h1
      obtain ⟨x',y',k1,k2,hrr⟩:=hget i hi
      rw[k1] at h1;cases h1
      simp[hi,f,k2] at h2
      subst h2;exact hrr
     ·simp only[Builtin.firstCells]
      exact nv (fun j hj=>by
       obtain ⟨_,y',_,k2,_⟩:=hget j hj
       simp[f,k2]) hn hw'
    ·simp at hkk
   ·simp at hkk
 ·simp at h
end
end Go.Proofs.Abs
