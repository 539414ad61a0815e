import Derived.Calls
import Derived.Orders
import Derived.Laws.AppendOwn
import Derived.Laws.CopyOwn
import Derived.WalkKit
import Derived.ChangeKeysEq
import Derived.Laws.StructEq
import Derived.Laws.Tables
namespace Go.Proofs.Abs
open Go
noncomputable section
inductive AV where
 |bool (b:Bool)
 |int (k:IntKind) (n:Int)
 |str (s:List UInt8)
 |ptr (id off:Nat)
 |nilp
 |fptr (cells:List AV) (off:Nat)
 |gptr (g off:Nat)
 |fsl (full:Bool) (es:List AV)
 |rsl (own:Bool) (id off len sz:Nat)
 |nilsl
 |nesl
 |map (id:Nat)
 |nilmap
 |func (fn:Fn) (first captured:List AV)
 |nilFunc
 |iface (t:TypeId) (v:AV)
 |nilIface
 |agg (cells:List AV)
 |tuple (vs:List AV)
 deriving Inhabited
def dE:AV:= .tuple []
def AV.cells:AV→List AV
 | .agg cs=>cs
 |v=>[v]
def AV.one:AV→Bool
 | .agg _| .tuple _=>false
 |_=>true
inductive Blk where
 |cells (l:List AV)
 |siter (s:List UInt8) (pos:Nat)
 |mapb (cl:Nat) (st:List Nat) (es:List (AV × AV))
 |miter (m since:Nat) (seen:List Nat) (last:Nat)
 deriving Inhabited
abbrev aa:=List (Nat × Option Blk)
def hget:aa→Nat→Option Blk
 |[],_=>none
 |(i,b)::t,id=>match Nat.beq i id with
  |true=>b
  |false=>hget t id
def bu:aa→Nat→Option Blk→aa
 |[],id,b=>[(id,b)]
 | (i,c)::t,id,b=>
  match Nat.beq i id with
  |true=>(id,b)::t
  |false=>match Nat.blt i id with
   |true=>(id,b)::(i,c)::t
   |false=>(i,c)::bu t id b
def aP (H:aa) (id:Nat) (b:Blk):aa:=bu H id (some b)
def aK (H:aa) (id:Nat):aa:=bu H id none
inductive Eff where
 |val (v:AV)
 |skip
 |read (id:Nat) (k:Blk→Option Eff)
 |upd (id:Nat) (k:Blk→Option (Blk × AV))
 |new (b:Blk) (k:Nat→AV)
 |repl (id:Nat) (k:Blk→Option (Blk × (Nat→AV)))
 |shut (id:Nat) (k:Blk→Option AV)
 |call (f:FuncId) (args:List AV)
def bF {α:Type}:List α→Nat→Option α
 |[],_=>none
 |a::_,0=>some a
 |_::t,n+1=>bF t n
def lx {α:Type}:List α→Nat→α→List α
 |[],_,_=>[]
 |_::t,0,x=>x::t
 |a::t,n+1,x=>a::lx t n x
inductive Tr where
 |tip
 |node (v:Option AV) (l r:Tr)
 deriving Inhabited
-- BEGIN TREE
noncomputable def Tr.get (t:Tr):Nat→Option AV:=
 Tr.rec (fun _=>none) (fun v _ _ gl gr k=>
  Bool.rec (Bool.rec (gr (k/2-1)) (gl (k/2)) (Nat.beq (k%2) 1)) v (Nat.beq k 0)) t
noncomputable def Tr.set (d:Nat):Tr→Nat→AV→Tr:=
 Nat.rec (fun t _ _=>t) (fun _ ih t k x=>
  Tr.rec
   (Bool.rec (Bool.rec (.node none .tip (ih .tip (k/2-1) x)) (.node none (ih .tip (k/2) x) .tip) (Nat.beq (k%2) 1)) (.node (some x) .tip .tip) (Nat.beq k 0))
   (fun v l r _ _=>Bool.rec (Bool.rec (.node v l (ih r (k/2-1) x)) (.node v (ih l (k/2) x) r) (Nat.beq (k%2) 1)) (.node (some x) l r) (Nat.beq k 0)) t) d
-- END TREE
def ac {α:Type}:List α→Nat
 |[]=>0
 |_::t=>ac t+1
def splice:List AV→Nat→List AV→Option (List AV)
 |l,_,[]=>some l
 |[],_,_::_=>none
 |_::t,0,v::vs=>(splice t 0 vs).map (v:: ·)
 |a::t,n+1,vs=>(splice t n vs).map (a:: ·)
def chunk:List AV→Nat→Nat→Option (List AV)
 |_,_,0=>some []
 |[],_,_+1=>none
 |a::t,0,n+1=>(chunk t 0 n).map (a:: ·)
 |_::t,o+1,n+1=>chunk t o (n+1)
def nF:Value→Option AV
 | .bool b=>some (.bool b)
 | .int k n=>some (.int k n)
 | .string s=>some (.str s.data.toList)
 | .pointer none=>some .nilp
 | .slice none 0 0=>some .nilsl
 | .map none=>some .nilmap
 | .nilFunc=>some .nilFunc
 | .nilIface=>some .nilIface
 |_=>none
def ly:List Value→Option (List AV)
 |[]=>some []
 | v::vs=>match nF v with
  |some a=>match ly vs with
   |some l=>some (a::l)
   |none=>none
  |none=>none
def ofValue:Value→Option AV
 | .agg cs=>match ly cs.toList with
  |some l=>some (.agg l)
  |none=>none
 | .tuple vs=>match vs.toList with
  |[]=>some (.tuple [])
  |_=>none
 |v=>nF v
def af (k:IntKind) (n:Int):Int:=
 match k,n with
 | .i64,.ofNat m=>match Nat.ble m 9223372036854775807 with
  |true=> .ofNat m
  |false=>k.wrap n
 | .i64,.negSucc m=>match Nat.ble m 9223372036854775807 with
  |true=> .negSucc m
  |false=>k.wrap n
 | .u8,.ofNat m=>match Nat.ble m 255 with
  |true=> .ofNat m
  |false=>k.wrap n
 | .u32,.ofNat m=>match Nat.ble m 4294967295 with
  |true=> .ofNat m
  |false=>k.wrap n
 | .u64,.ofNat m=>match Nat.ble m 18446744073709551615 with
  |true=> .ofNat m
  |false=>k.wrap n
 |k,n=>k.wrap n
def cW:List UInt8→List UInt8→Bool
 |[],[]=>true
 |a::x,b::y=>match Nat.beq a.toNat b.toNat with
  |true=>cW x y
  |false=>false
 |_,_=>false
def dF:List UInt8→List UInt8→Bool
 |_,[]=>false
 |[],_::_=>true
 | a::x,b::y=>match Nat.blt a.toNat b.toNat with
  |true=>true
  |false=>match Nat.beq a.toNat b.toNat with
   |true=>dF x y
   |false=>false
def ag:Int→Int→Bool
 | .ofNat a,.ofNat b=>Nat.beq a b
 | .negSucc a,.negSucc b=>Nat.beq a b
 |_,_=>false
def am:Int→Int→Bool
 | .ofNat a,.ofNat b=>Nat.blt a b
 | .negSucc a,.negSucc b=>Nat.blt b a
 | .negSucc _,.ofNat _=>true
 | .ofNat _,.negSucc _=>false
section
variable (P:Program)
def a8 (t:TypeId):Option Nat:=(P.info? t).map (·.size)
def jD (t:TypeId):Option Bool:=(P.underlying t).map fun
 | .struct _| .array _ _=>true
 |_=>false
def cJ (t:TypeId):Option AV:=do ofValue (←(←P.info? t).zero)
def bU (t:TypeId) (cs:List AV) (off:Nat):Option AV:=
 match jD P t with
 |some true=>match a8 P t with
  |some n=>(chunk cs off n).map .agg
  |none=>none
 |some false=>bF cs off
 |none=>none
def be:List AV→Bool
 |[]=>true
 |a::t=>a.one&&be t
def dk (t:TypeId) (a:AV) (glob:Nat→Option (List AV)):Option Eff:=
 match a with
 | .ptr id off=>some<| .read id fun
  | .cells l=>(bU P t l off).map .val
  |_=>none
 | .fptr cs off=>(bU P t cs off).map .val
 | .gptr g off=>match glob g with
  |some l=>(bU P t l off).map .val
  |none=>none
 |_=>none
def iC (t:TypeId) (a v:AV):Option Eff:=
 match a with
 | .ptr id off=>match a8 P t with
  | some n=>if Nat.beq (ac v.cells) n&&be v.cells then
    some<| .upd id fun
     | .cells l=>(splice l off v.cells).map fun l'=>(.cells l',dE)
     |_=>none
   else none
  |none=>none
 |_=>none
def lz:AV→Option AV
 | .ptr i o=>some (.ptr i o)
 | .fptr c o=>some (.fptr c o)
 | .gptr g o=>some (.gptr g o)
 | .iface t v=>some (.iface t v)
 | .func (.func f) a b=>some (.func (.func f) a b)
 |_=>none
def fX (eq:TypeId→AV→AV→Option Bool):List Field→List AV→List AV→Option Bool
 |[],_,_=>some true
 | f::fs,xs,ys=>
  match f.name== "_" with
  |true=>fX eq fs xs ys
  | false=>match bU P f.type xs f.offset,bU P f.type ys f.offset with
   |some a,some b=>match eq f.type a b with
    |some true=>fX eq fs xs ys
    |some false=>some false
    |none=>none
   |_,_=>none
def gE (eq:TypeId→AV→AV→Option Bool) (e:TypeId) (sz:Nat) (xs ys:List AV):List Nat→Option Bool
 |[]=>some true
 | i::is=>match bU P e xs (i*sz),bU P e ys (i*sz) with
  |some a,some b=>match eq e a b with
   |some true=>gE eq e sz xs ys is
   |some false=>some false
   |none=>none
  |_,_=>none
def co:Nat→TypeId→AV→AV→Option Bool
 |0,_,_,_=>none
 | d+1,t,x,y=>
  match P.underlying t,x,y with
  |some .bool,.bool a,.bool b=>some (a==b)
  |some (.int _),.int k a,.int k' b=>if k=k' then some (ag a b) else none
  |some .string,.str a,.str b=>some (cW a b)
  |some (.struct fs),.agg xs,.agg ys=>if P.stoodInHeld t then none else fX P (co d) fs.toList xs ys
  |some (.pointer _),.nilp,.nilp=>some true
  |some (.pointer _),.nilp,.ptr _ _=>some false
  |some (.pointer _),.ptr _ _,.nilp=>some false
  |some (.pointer _),.nilp,.fptr _ _=>some false
  |some (.pointer _),.fptr _ _,.nilp=>some false
  |some (.func _ _ _),.nilFunc,.nilFunc=>some true
  |some (.func _ _ _),.func _ _ _,.nilFunc=>some false
  |some (.func _ _ _),.nilFunc,.func _ _ _=>some false
  |some (.slice _),.nilsl,.nilsl=>some true
  |some (.slice _),.rsl _ _ _ _ _,.nilsl=>some false
  |some (.slice _),.nesl,.nilsl=>some false
  |some (.slice _),.fsl _ (_::_),.nilsl=>some false
  |some (.map _ _),.nilmap,.nilmap=>some true
  |some (.map _ _),.map _,.nilmap=>some false
  |some (.interface _),.nilIface,.nilIface=>some true
  |some (.interface _),.iface _ _,.nilIface=>some false
  |some (.interface _),.nilIface,.iface _ _=>some false
  |some (.array n e),.agg xs,.agg ys=>match a8 P e with
   |some sz=>gE P (co d) e sz xs ys (List.range n)
   |none=>none
  |_,_,_=>none
def jE:Operand→Bool
 | .const .nilIface=>true
 |_=>false
def an (op:BinOp) (t:TypeId) (xo yo:Operand) (x y:AV):Option AV:=
 match op,x,y with
 | .shl,.int k a,.int _ b=>if am b 0 then none else some (.int k (af k (a*2^min b.toNat k.bits)))
 | .shr,.int k a,.int _ b=>if am b 0 then none else some (.int k (a.fdiv (2^min b.toNat k.bits)))
 |op,.int k a,.int k' b=>
  if k≠k' then none else
  match op with
  | .add=>some (.int k (af k (a+b)))
  | .sub=>some (.int k (af k (a-b)))
  | .mul=>some (.int k (af k (a*b)))
  | .quo=>if ag b 0 then none else some (.int k (af k (a.tdiv b)))
  | .rem=>if ag b 0 then none else some (.int k (a.tmod b))
  | .and=>some (.int k (af k (BitVec.ofInt k.bits a&&&BitVec.ofInt k.bits b).toNat))
  | .or=>some (.int k (af k (BitVec.ofInt k.bits a|||BitVec.ofInt k.bits b).toNat))
  | .xor=>some (.int k (af k (BitVec.ofInt k.bits a^^^BitVec.ofInt k.bits b).toNat))
  | .andNot=>some (.int k (af k (BitVec.ofInt k.bits a&&& ~~~ BitVec.ofInt k.bits b).toNat))
  | .eql=>some (.bool (ag a b))
  | .neq=>some (.bool (!ag a b))
  | .lss=>some (.bool (am a b))
  | .leq=>some (.bool (!am b a))
  | .gtr=>some (.bool (am b a))
  | .geq=>some (.bool (!am a b))
  |_=>none
 |op,.str a,.str b=>
  match op with
  | .add=>if Nat.ble (ac a+ac b) 9223372036854775807 then some (.str (a++b)) else none
  | .eql=>some (.bool (cW a b))
  | .neq=>some (.bool (!cW a b))
  | .lss=>some (.bool (dF a b))
  | .leq=>some (.bool (dF a b||cW a b))
  | .gtr=>some (.bool (!(dF a b||cW a b)))
  | .geq=>some (.bool (!dF a b))
  |_=>none
 | .eql,.agg a,.agg b=>if P.eqGuardType P.depth t then none else (co P 16 t (.agg a) (.agg b)).map .bool
 | .neq,.agg a,.agg b=>if P.eqGuardType P.depth t then none else (co P 16 t (.agg a) (.agg b)).map (.bool !·)
 | .eql,.nilIface,.nilIface=>if jE xo||jE yo then (co P 16 t x y).map .bool else none
 | .neq,.nilIface,.nilIface=>if jE xo||jE yo then (co P 16 t x y).map (.bool !·) else none
 | .eql,x,y=>(co P 16 t x y).map .bool
 | .neq,x,y=>(co P 16 t x y).map (.bool !·)
 |_,_,_=>none
def qy (op:UnOp) (x:AV):Option AV:=
 match op,x with
 | .neg,.int k n=>some (.int k (af k (0-n)))
 | .xor,.int k n=>some (.int k (af k (BitVec.ofInt k.bits (if k.signed then-1 else k.max)^^^BitVec.ofInt k.bits n).toNat))
 | .not,.bool b=>some (.bool !b)
 |_,_=>none
def cK:List AV→Option (List UInt8)
 |[]=>some []
 | .int .u8 n::t=>(cK t).map (UInt8.ofNat n.toNat:: ·)
 |_=>none
def aj:List UInt8→List AV
 |[]=>[]
 |b::t=> .int .u8 (.ofNat b.toNat)::aj t
def iD:Option (List UInt8)→Option Eff
 |some s=>some (.val (.str s))
 |none=>none
def jF (e:TypeId):Bool:=match P.underlying e with
 |some (.int .u8)=>true
 |_=>false
def qz (x:AV):Option Eff:=
 match x with
 | .fsl _ es=>iD (cK es)
 | .nilsl=>some (.val (.str []))
 | .rsl _ id off len _=>some<| .read id fun
  | .cells l=>match chunk l off len with
   |some cs=>iD (cK cs)
   |none=>none
  |_=>none
 |_=>none
def um (x:AV):Option Eff:=
 match x with
 | .rsl true id 0 len 1=>some<| .shut id fun
  | .cells l=>match chunk l 0 len with
   |some cs=>match be cs with
    |true=>some (.fsl false cs)
    |false=>none
   |none=>none
  |_=>none
 |_=>none
def fo (src dst:TypeId) (x:AV):Option Eff:=
 match P.underlying src,P.underlying dst,x with
 |some _,some (.int k),.int _ n=>some (.val (.int k (af k n)))
 |some _,some .string,.str s=>some (.val (.str s))
 |some _,some (.slice e),.str s=>match jF P e with
  |true=>some (.val (.fsl false (aj s)))
  |false=>none
 |some (.slice _),some (.slice e),x=>match decide (src=dst)&&jF P e with
  |true=>um x
  |false=>none
 |some (.slice e),some .string,x=>match jF P e with
  |true=>qz x
  |false=>none
 |_,_,_=>none
def ch (t:TypeId):Option TypeId:=match P.underlying t with
 |some (.slice e)=>some e
 |_=>none
def dG:AV→Option Nat
 | .int _ (.ofNat n)=>some n
 |_=>none
def flat:List AV→List AV
 |[]=>[]
 |e::t=>e.cells++flat t
def cb (z:AV):Nat→List AV
 |0=>[]
 |n+1=>z::cb z n
def lA (t:TypeId) (l c:AV):Option Eff:=
 match ch P t,dG l,dG c with
 | some e,some l,some c=>match P.info? e,cJ P e with
  |some i,some z=>
   match Nat.ble l c&&Nat.ble (i.bytes*c) 281474976710656&&Nat.ble c 9223372036854775807&&Nat.beq (ac z.cells) i.size&&Nat.blt 0 i.size with
   |true=>some (.new (.cells (flat (cb z c))) fun id=> .rsl true id 0 l i.size)
   |false=>none
  |_,_=>none
 |_,_,_=>none
def eP:Option AV→Option (Option Nat)
 |none=>some none
 |some v=>(dG v).map some
def qB (es:List AV) (l h:Nat):Option (List AV):=chunk es l (h-l)
def nG (sz:Nat):List AV→Bool
 |[]=>true
 |e::_=>Nat.beq (ac e.cells) sz
def qC (t:TypeId) (s:List UInt8) (lo hi mx:Option Nat):Option Eff:=
 match P.underlying t with
 |some .string=>
  match mx.isNone&&Nat.ble (lo.getD 0) (hi.getD (ac s))&&Nat.ble (hi.getD (ac s)) (ac s) with
  |true=>some (.val (.str ((s.drop (lo.getD 0)).take (hi.getD (ac s)-lo.getD 0))))
  |false=>none
 |_=>none
def lB (full:Bool) (mx:Option Nat) (h n:Nat):Bool:=match mx with
 |some m=>Nat.beq m h
 |none=>full&&Nat.beq h n
def lC (own:Bool) (id off l h sz:Nat):AV:=match Nat.beq l 0 with
 |true=> .rsl own id off h sz
 |false=>match Nat.beq l h with
  |true=> .fsl false []
  |false=> .rsl own id (off+l*sz) (h-l) sz
def qD (t:TypeId) (full:Bool) (es:List AV) (lo hi mx:Option Nat):Option Eff:=
 match ch P t with
 | some e=>match a8 P e with
  | some sz=>
   match nG sz es&&Nat.ble (lo.getD 0) (hi.getD (ac es))&&Nat.ble (hi.getD (ac es)) (ac es)&&
     (match mx with|some m=>Nat.ble (hi.getD (ac es)) m&&Nat.ble m (ac es)&&hi.isSome|none=>true) with
   |true=>match qB es (lo.getD 0) (hi.getD (ac es)) with
    |some es'=>some (.val (.fsl (lB full mx (hi.getD (ac es)) (ac es)) es'))
    |none=>none
   |false=>none
  |none=>none
 |none=>none
def qE (t:TypeId) (own:Bool) (id off len sz':Nat) (lo hi mx:Option Nat):Option Eff:=
 match ch P t with
 | some e=>match a8 P e with
  | some sz=>
   match Nat.beq sz sz'&&Nat.ble (lo.getD 0) (hi.getD len)&&(match mx with|some m=>Nat.ble (hi.getD len) m&&Nat.ble m len&&hi.isSome|none=>true) with
   | true=>
    match Nat.ble (hi.getD len) len with
    |true=>some (.val (lC (own&&mx.isNone) id off (lo.getD 0) (hi.getD len) sz))
    | false=>match own&&Nat.blt 0 sz with
     | true=>some<| .read id fun
      | .cells c=>match Nat.ble (off+hi.getD len*sz) (ac c) with
       |true=>some (.val (lC (own&&mx.isNone) id off (lo.getD 0) (hi.getD len) sz))
       |false=>none
      |_=>none
     |false=>none
   |false=>none
  |none=>none
 |none=>none
def un (t:TypeId) (id off:Nat) (lo hi mx:Option Nat):Option Eff:=
 match P.underlying t with
 | some (.array n e)=>match a8 P e with
  | some sz=>
   match mx.isNone&&Nat.ble (lo.getD 0) (hi.getD n)&&Nat.ble (hi.getD n) n with
   |true=>match Nat.beq (lo.getD 0) (hi.getD n) with
    |true=>some (.val (.fsl false []))
    |false=>some (.val (.rsl false id (off+lo.getD 0*sz) (hi.getD n-lo.getD 0) sz))
   |false=>none
  |none=>none
 |_=>none
def uo (t:TypeId) (lo hi mx:Option Nat):Option Eff:=
 match ch P t with
 | some e=>match a8 P e with
  |some _=>match Nat.beq (lo.getD 0) 0&&Nat.beq (hi.getD 0) 0&&Nat.beq (mx.getD 0) 0&&(mx.isNone||hi.isSome) with
   |true=>some (.val .nilsl)
   |false=>none
  |none=>none
 |none=>none
def fp (t:TypeId) (x:AV) (lo hi mx:Option AV):Option Eff:=
 match eP lo,eP hi,eP mx with
 |some lo,some hi,some mx=>match x with
  | .str s=>qC P t s lo hi mx
  | .fsl full es=>qD P t full es lo hi mx
  | .nilsl=>uo P t lo hi mx
  | .rsl own id off len sz'=>qE P t own id off len sz' lo hi mx
  | .ptr id off=>un P t id off lo hi mx
  |_=>none
 |_,_,_=>none
def iE (t:TypeId) (f:Nat):Option Field:=match P.underlying t with
 |some (.struct fs)=>fs[f]?
 |_=>none
def lD (t:TypeId) (x:AV) (f:Nat):Option AV:=
 match iE P t f with
 | some fd=>match a8 P fd.type with
  |some (_+1)=>match x with
   | .ptr id off=>some (.ptr id (off+fd.offset))
   | .fptr cs off=>some (.fptr cs (off+fd.offset))
   | .gptr g off=>some (.gptr g (off+fd.offset))
   |_=>none
  |_=>none
 |none=>none
def aJ (t:TypeId) (x i:AV):Option AV:=do
 let i←dG i
 match P.underlying t with
 | some (.array n e)=>
  let sz←a8 P e
  if Nat.blt i n then
   match x with
   | .ptr id off=>some (.ptr id (off+i*sz))
   | .fptr cs off=>some (.fptr cs (off+i*sz))
   | .gptr g off=>some (.gptr g (off+i*sz))
   |_=>none
  else none
 | some (.slice e)=>
  let sz←a8 P e
  match x with
  | .fsl _ es=>match bF es i with
   |some v=>if Nat.beq (ac v.cells) sz then some (.fptr v.cells 0) else none
   |none=>none
  | .rsl _ id off len sz'=>if Nat.blt i len&&Nat.beq sz sz' then some (.ptr id (off+i*sz)) else none
  |_=>none
 |_=>none
def cX (t:TypeId) (x i:AV):Option AV:=do
 let i←dG i
 match P.underlying t,x with
 |some (.array n e),.agg cs=>if Nat.blt i n then do bU P e cs (i*(←a8 P e)) else none
 |some .string,.str s=>(bF s i).map fun b=> .int .u8 (.ofNat b.toNat)
 |_,_=>none
def eQ (place:Nat→Option (Nat × Nat)):List AV→List (Nat × AV)→Option (List AV)
 |cells,[]=>some cells
 | cells,(i,v)::rest=>
  match place i with
  | some (off,size)=>if Nat.beq (ac v.cells) size&&Nat.blt 0 size then
    match splice cells off v.cells with
    |some c=>eQ place c rest
    |none=>none
   else none
  |none=>none
def jG:List Field→Option (List (Nat × Nat))
 |[]=>some []
 | f::fs=>match a8 P f.type with
  |some s=>match jG fs with
   |some l=>some ((f.offset,s)::l)
   |none=>none
  |none=>none
def iF:Option (List AV)→Option AV
 |some l=>some (.agg l)
 |none=>none
def lE (t:TypeId) (parts:List (Nat × AV)):Option AV:=
 match cJ P t,P.underlying t with
 |some z,some (.struct fs)=>match jG P fs.toList with
  |some pl=>iF (eQ (bF pl) z.cells parts)
  |none=>none
 |some z,some (.array _ e)=>match a8 P e with
  |some s=>iF (eQ (fun i=>some (i*s,s)) z.cells parts)
  |none=>none
 |_,_=>none
def iG (sz:Nat):List AV→List (Nat × AV)→Option (List AV)
 |es,[]=>some es
 |es,(i,v)::rest=>if Nat.beq (ac v.cells) sz&&Nat.blt i (ac es) then iG sz (lx es i v) rest else none
def lF:Option (List AV)→Option AV
 |some l=>some (.fsl true l)
 |none=>none
def lG (t:TypeId) (len:Nat) (parts:List (Nat × AV)):Option AV:=
 match ch P t with
 | some e=>match a8 P e,cJ P e with
  |some sz,some z=>match Nat.ble (len*sz) 16777216&&Nat.beq (ac z.cells) sz&&Nat.blt 0 sz with
   |true=>lF (iG sz (cb z len) parts)
   |false=>none
  |_,_=>none
 |none=>none
def bi (sz:Nat):List AV→Bool
 |[]=>true
 |e::t=>Nat.beq (ac e.cells) sz&&bi sz t
def gF:List AV→AV
 |[.agg cs]=> .agg [.agg cs]
 |[v]=>v
 |cs=> .agg cs
def gG (sz:Nat):Nat→List AV→Option (List AV)
 |0,_=>some []
 |n+1,l=>match chunk l 0 sz with
  |some c=>(gG sz n (l.drop sz)).map (gF c:: ·)
  |none=>none
def dU (sz:Nat) (x:AV) (k:Nat→List AV→Option Eff):Option Eff:=
 match x with
 | .fsl _ es=>if bi sz es then k (ac es) (flat es) else none
 | .nilsl=>k 0 []
 | .nesl=>k 0 []
 | .str s=>if Nat.beq sz 1 then k (ac s) (aj s) else none
 | .rsl _ id off len _=>some<| .read id fun
  | .cells l=>match chunk l off (len*sz) with
   |some cs=>k len cs
   |none=>none
  |_=>none
 |_=>none
def jH (xd:TypeDesc) (sz bytes:Nat) (z x:AV) (k:Nat→List AV→Option Eff):Option Eff:=
 match xd with
 | .slice _| .string=>dU sz x k
 | .int _=>match x with
  | .int _ (.ofNat n)=>match Nat.ble n 9223372036854775807&&Nat.ble (n*bytes) 281474976710656 with
   |true=>k n (flat (cb z n))
   |false=>none
  |_=>none
 |_=>none
def iH (argTypes:Array TypeId) (s x:AV):Option Eff:=
 match argTypes[0]?,argTypes[1]? with
 | some st,some xt=>
  match P.underlying st,P.underlying xt with
  | some (.slice e),some xd=>
   match P.info? e,cJ P e with
   | some i,some z=>
    if Nat.beq i.size 0||Nat.beq i.bytes 0|| !Nat.beq (ac z.cells) i.size then none else
    jH xd i.size i.bytes z x fun n cs=>
     match s with
     | .nilsl=>if Nat.beq n 0 then some (.val .nilsl) else
       if Nat.ble (n*i.bytes) 140737488355328 then some (.new (.cells cs) fun id=> .rsl true id 0 n i.size) else none
     | .fsl true es=>if Nat.beq n 0 then some (.val (.fsl true es)) else
       if Nat.ble ((ac es+n)*i.bytes) 140737488355328&&bi i.size es then some (.new (.cells (flat es++cs)) fun id=> .rsl true id 0 (ac es+n) i.size) else none
     | .fsl false es=>if Nat.beq n 0 then some (.val (.fsl false es)) else none
     | .rsl true id 0 len sz=>
      if Nat.ble ((len+n)*i.bytes) 140737488355328&&be cs&&Nat.beq sz i.size then
       some<| .repl id fun
        | .cells l=>
         if Nat.ble ((len+n)*i.size) (ac l) then
          match splice l (len*i.size) cs with
          |some l'=>some (.cells l',fun id'=> .rsl true id' 0 (len+n) i.size)
          |none=>none
         else if Nat.ble (len*i.size) (ac l) then
          some (.cells (l.take (len*i.size)++cs),fun id'=> .rsl true id' 0 (len+n) i.size)
         else none
        |_=>none
      else none
     |_=>none
   |_,_=>none
  |_,_=>none
 |_,_=>none
def fY (argTypes:Array TypeId) (x:AV):Option Eff:=
 match argTypes[0]? with
 | some t=>match P.underlying t,x with
  |some .string,.str s=>some (.val (.int .i64 (.ofNat (ac s))))
  |some (.array n _),_=>some (.val (.int .i64 (.ofNat n)))
  |some (.slice _),.fsl _ es=>some (.val (.int .i64 (.ofNat (ac es))))
  |some (.slice _),.nilsl=>some (.val (.int .i64 0))
  |some (.slice _),.rsl _ _ _ n _=>some (.val (.int .i64 (.ofNat n)))
  |some (.map _ _),.nilmap=>some (.val (.int .i64 0))
  |some (.map _ _),.map id=>some<| .read id fun
   | .mapb _ _ es=>some (.val (.int .i64 (.ofNat (ac es))))
   |_=>none
  |_,_=>none
 |none=>none
def iI (argTypes:Array TypeId) (d x:AV):Option Eff:=
 match argTypes[0]? with
 | some t=>match ch P t with
  | some e=>match a8 P e with
   |some sz=>
    match d with
    | .rsl _ id off len _=>dU sz x fun n cs=>
      let m:=min n len
      if be cs then some<| .upd id fun
       | .cells l=>match splice l off (cs.take (m*sz)) with
        |some l'=>some (.cells l',.int .i64 (.ofNat m))
        |none=>none
       |_=>none
      else none
    | .nilsl=>dU sz x fun _ _=>some (.val (.int .i64 0))
    | .fsl _ []=>dU sz x fun _ _=>some (.val (.int .i64 0))
    |_=>none
   |none=>none
  |none=>none
 |none=>none
def qF (argTypes:Array TypeId) (x:AV):Option Eff:=
 match argTypes[0]? with
 | some t=>match P.underlying t with
  | some (.slice e)=>match a8 P e,cJ P e with
   | some sz,some z=>if Nat.beq (ac z.cells) sz&&be z.cells&&Nat.blt 0 sz then
     match x with
     | .nilsl=>some (.val (.tuple []))
     | .fsl _ []=>some (.val (.tuple []))
     | .rsl _ id off len _=>some<| .upd id fun
      | .cells l=>(splice l off (flat (cb z len))).map fun l'=>(.cells l',.tuple [])
      |_=>none
     |_=>none
    else none
   |_,_=>none
  |_=>none
 |none=>none
def lH:AV→AV→Option Bool
 | .str a,.str b=>some (cW a b)
 | .int k a,.int k' b=>if k=k' then some (ag a b) else none
 |_,_=>none
def lI (k:AV):List (AV × AV)→Option (Option AV)
 |[]=>some none
 |(k',v)::t=>match lH k k' with
  |some true=>some (some v)
  |some false=>lI k t
  |none=>none
def lJ (k v:AV):List (AV × AV)→Option (List (AV × AV))
 |[]=>some [(k,v)]
 | (k',v')::t=>match lH k k' with
  |some true=>some ((k,v)::t)
  |some false=>match lJ k v t with
   |some u=>some ((k',v')::u)
   |none=>none
  |none=>none
def eu (kd:TypeDesc) (k:AV):Bool:=match kd,k with
 | .string,.str _=>true
 | .int j,.int k _=>decide (j=k)
 |_,_=>false
def lK (kt:TypeId) (k:AV):Bool:=match P.underlying kt with
 |some kd=>eu kd k
 |none=>false
def nH (ok:Bool) (z:AV) (r:Option AV):AV:=match ok,r with
 |true,some v=> .tuple [v,.bool true]
 |true,none=> .tuple [z,.bool false]
 |false,some v=>v
 |false,none=>z
def qG (t:TypeId) (m k:AV) (ok:Bool):Option Eff:=
 match P.underlying t with
 | some (.map kt et)=>
  match lK P kt k,cJ P et with
  | true,some z=>
   match m with
   | .nilmap=>some (.val (nH ok z none))
   | .map id=>some<| .read id fun
    | .mapb _ _ es=>match lI k es with
     |some r=>some (.val (nH ok z r))
     |none=>none
    |_=>none
   |_=>none
  |_,_=>none
 |_=>none
def qH (t:TypeId) (m k v:AV):Option Eff:=
 match P.underlying t with
 | some (.map kt _)=>
  match lK P kt k with
  | true=>match m with
   | .map id=>some<| .upd id fun
    | .mapb cl st es=>match lJ k v es with
     |some es'=>match Nat.beq (ac es') (ac es) with
      |true=>some (.mapb cl st es',dE)
      |false=>some (.mapb (cl+1) (st++[cl]) es',dE)
     |none=>none
    |_=>none
   |_=>none
  |false=>none
 |_=>none
def lL (k:AV):List (AV × AV)→Nat→Option (Option Nat)
 |[],_=>some none
 |(k',_)::t,i=>match lH k k' with
  |some true=>some (some i)
  |some false=>lL k t (i+1)
  |none=>none
def qJ (argTypes:Array TypeId) (m k:AV):Option Eff:=
 match argTypes[0]? with
 | some t=>match P.underlying t with
  | some (.map kt _)=>match lK P kt k with
   | true=>match m with
    | .map id=>some<| .upd id fun
     | .mapb cl st es=>match lL k es 0 with
      |some (some i)=>some (.mapb cl (st.eraseIdx i) (es.eraseIdx i),.tuple [])
      |some none=>some (.mapb cl st es,.tuple [])
      |none=>none
     |_=>none
    |_=>none
   |false=>none
  |_=>none
 |none=>none
def cz:List Nat→Nat→Bool
 |[],_=>false
 |a::t,x=>match Nat.beq a x with
  |true=>true
  |false=>cz t x
def iJ:List Nat→Nat→Bool
 |[],_=>true
 |a::t,n=>Nat.blt a n&&iJ t n
def lM (m since:Nat) (seen:List Nat) (cl:Nat):List Nat→List (AV × AV)→Option (List (AV × Blk))
 |[],[]=>some []
 | s::st,(k,v)::es=>match lM m since seen cl st es with
  |some l=>match cz seen s with
   |true=>some l
   |false=>some ((.tuple [.bool true,k,v],.miter m since (seen++[s]) cl)::l)
  |none=>none
 |_,_=>none
def jI (it mp:Blk):Option (List (AV × Blk)):=
 match it,mp with
 | .miter m since seen last,.mapb cl st es=>match iJ st since&&Nat.ble since last with
  |true=>lM m since seen cl st es
  |false=>none
 |_,_=>none
def qK (t:TypeId) (x:AV):Option Eff:=
 match P.underlying t,x with
 |some (.map _ _),.map m=>some<| .read m fun
  | .mapb cl _ _=>some (.new (.miter m cl [] cl) fun id=> .ptr id 0)
  |_=>none
 |_,_=>none
def qL (x:AV) (isString:Bool):Option Eff:=
 match x,isString with
 | .ptr id 0,false=>some<| .read id fun
  | .miter m since seen last=>some<| .read m fun mp=>match jI (.miter m since seen last) mp with
   |some []=>some (.val (.tuple [.bool false]))
   |some [(v,b)]=>some (.upd id fun
    | .miter _ _ _ _=>some (b,v)
    |_=>none)
   |_=>none
  |_=>none
 |_,_=>none
def jJ:List Nat→Option Nat
 |[]=>none
 |[a]=>some a
 |_::t=>jJ t
def lN (s:Nat):List Nat→List (AV × AV)→Option AV
 |a::st,(k,v)::es=>match Nat.beq a s with
  |true=>some (.tuple [k,v])
  |false=>lN s st es
 |_,_=>none
def qM (x:AV):Option Eff:=
 match x with
 | .ptr id 0=>some<| .read id fun
  | .miter m _ seen last=>some<| .read m fun
   | .mapb cl st es=>match Nat.beq cl last,jJ seen with
    |true,some s=>match lN s st es with
     |some v=>some (.val v)
     |none=>none
    |_,_=>none
   |_=>none
  |_=>none
 |_=>none
def qN:List AV→Option AV
 |[]=>none
 |x::rest=>rest.foldlM (fun x y=>match x,y with
  | .int k a,.int _ b=>some (.int k (if am b a then b else a))
  |_,_=>none) x
def qO:List AV→Option AV
 |[]=>none
 |x::rest=>rest.foldlM (fun x y=>match x,y with
  | .int k a,.int _ b=>some (.int k (if am a b then b else a))
  |_,_=>none) x
def qP (x:AV) (asserted:TypeId) (ok:Bool):Option AV:=
 match P.underlying asserted with
 |some (.interface _)=>none
 | some _=>match x with
  | .iface t v=>if t=asserted then some (if ok then .tuple [v,.bool true] else v)
   else if ok then (cJ P asserted).map fun z=> .tuple [z,.bool false] else none
  | .nilIface=>if ok then (cJ P asserted).map fun z=> .tuple [z,.bool false] else none
  |_=>none
 |none=>none
def iK (b:Builtin) (argTypes:Array TypeId) (args:List AV):Option Eff:=
 match b,args with
 | .append,[s,x]=>iH P argTypes s x
 | .len,[x]=>fY P argTypes x
 | .copy,[d,x]=>iI P argTypes d x
 | .clear,[x]=>qF P argTypes x
 | .delete,[m,k]=>qJ P argTypes m k
 | .min,l=>(qN l).map .val
 | .max,l=>(qO l).map .val
 |_,_=>none
def nI (t:TypeId) (name:String):Option FuncId:=
 match P.info? t with
 | some i=>match i.methods.find? (·.name==name) with
  | some m=>match m.path.isEmpty with
   |true=>match m.func,P.underlying t with
    |some (f,true),some (.pointer _)=>some f
    |some (_,false),some (.pointer _)=>none
    |some (f,false),some _=>some f
    |_,_=>none
   |false=>none
  |none=>none
 |none=>none
def qQ (t:TypeId) (name:String):Option (TypeId × FuncId):=
 match P.info? t with
 | some i=>match i.methods.find? (·.name==name) with
  | some m=>match m.path.isEmpty with
   |true=>match m.func,P.underlying t with
    |some (f,false),some (.pointer e)=>some (e,f)
    |_,_=>none
   |false=>none
  |none=>none
 |none=>none
def uq (f:FuncId) (rest:List AV):Eff→Option Eff
 | .val u=>some (.call f (u::rest))
 |_=>none
def lO (glob:Nat→Option (List AV)) (t:TypeId) (v:AV) (name:String) (rest:List AV):Option Eff:=
 match nI P t name with
 |some f=>some (.call f (v::rest))
 | none=>match qQ P t name with
  |some (e,f)=>match dk P e v glob with
   |some (.val u)=>some (.call f (u::rest))
   |some (.read id k)=>some (.read id fun b=>(k b).bind (uq f rest))
   |_=>none
  |none=>none
def nJ (glob:Nat→Option (List AV)) (fn:Fn) (args captured:List AV):Option Eff:=
 match fn with
 | .func f=>some (.call f (args++captured))
 | .method name=>match args with
  | .iface t v::rest=>lO P glob t v name rest
  |_=>none
 | .methodOf t name=>match args with
  | r::rest=>match P.underlying t with
   |some (.interface _)=>match r with
    | .iface t' v=>lO P glob t' v name rest
    |_=>none
   |some _=>lO P glob t r name rest
   |none=>none
  |_=>none
 |_=>none
def dV (ev:Operand→Option AV):List Operand→Option (List AV)
 |[]=>some []
 |x::t=>match ev x with
  |some v=>(dV ev t).map (v:: ·)
  |none=>none
def fq (ev:Operand→Option AV):List (Nat × Operand)→Option (List (Nat × AV))
 |[]=>some []
 |(i,x)::t=>match ev x with
  |some v=>(fq ev t).map ((i,v):: ·)
  |none=>none
def dl (ev:Operand→Option AV):Option Operand→Option (Option AV)
 |none=>some none
 |some x=>(ev x).map some
def e1 (ev:Operand→Option AV) (x:Operand) (k:AV→Option Eff):Option Eff:=
 match ev x with
 |some v=>k v
 |none=>none
def e2 (ev:Operand→Option AV) (x y:Operand) (k:AV→AV→Option Eff):Option Eff:=
 match ev x,ev y with
 |some v,some w=>k v w
 |_,_=>none
def e3 (ev:Operand→Option AV) (x y z:Operand) (k:AV→AV→AV→Option Eff):Option Eff:=
 match ev x,ev y,ev z with
 |some v,some w,some u=>k v w u
 |_,_,_=>none
def a0:Option AV→Option Eff
 |some v=>some (.val v)
 |none=>none
def nK (ev:Operand→Option AV) (c a b:Operand):Option Eff:=
 match ev c with
 |some (.bool true)=>a0 (ev a)
 |some (.bool false)=>a0 (ev b)
 |_=>none
def jK (v:AV):Option Eff:=some (.new (.cells v.cells) fun id=> .ptr id 0)
def ur (t:TypeId):Option Eff:=match cJ P t with
 |some z=>jK z
 |none=>none
def nL (ev:Operand→Option AV) (t:TypeId) (parts:Array (Nat × Operand)):Option Eff:=
 match fq ev parts.toList with
 |some ps=>a0 (lE P t ps)
 |none=>none
def jL (ev:Operand→Option AV) (t:TypeId) (n:Nat) (parts:Array (Nat × Operand)):Option Eff:=
 match fq ev parts.toList with
 |some ps=>a0 (lG P t n ps)
 |none=>none
def qR (ev:Operand→Option AV) (t:TypeId) (n:Nat) (parts:Array (Nat × Operand)):Option Eff:=
 match jL P ev t n parts with
 | some (.val (.fsl true es))=>match ch P t with
  |some e=>match a8 P e with
   |some sz=>some (.new (.cells (flat es)) fun id=> .rsl true id 0 n sz)
   |none=>none
  |none=>none
 |_=>none
def qS (ev:Operand→Option AV) (t:TypeId) (x:Operand):Option Eff:=
 match P.underlying t with
 |some (.interface _)=>none
 |some _=>match ev x with
  |some v=>some (.val (.iface t v))
  |none=>none
 |none=>none
def qT (ev:Operand→Option AV) (fn:Fn) (a b:Array Operand):Option Eff:=
 match dV ev a.toList,dV ev b.toList with
 |some a,some b=>some (.val (.func fn a b))
 |_,_=>none
def lP (ev:Operand→Option AV) (t:TypeId) (x:Operand) (lo hi mx:Option Operand):Option Eff:=
 match ev x,dl ev lo,dl ev hi,dl ev mx with
 |some x,some lo,some hi,some mx=>fp P t x lo hi mx
 |_,_,_,_=>none
def qU (ev:Operand→Option AV) (t:TypeId) (x:Operand) (f:Nat):Option Eff:=
 match iE P t f,ev x with
 |some fd,some (.agg cs)=>a0 (bU P fd.type cs fd.offset)
 |_,_=>none
def nM (ev:Operand→Option AV) (t:Operand) (i:Nat):Option Eff:=
 match ev t with
 |some (.tuple vs)=>a0 (bF vs i)
 |_=>none
def fu (glob:Nat→Option (List AV)) (ev:Operand→Option AV) (c:Call):Option Eff:=
 match dV ev c.args.toList with
 |none=>none
 | some args=>match c.callee with
  | .builtin b=>iK P b c.argTypes args
  | .value f=>match ev f with
   |some (.func fn first captured)=>nJ P glob fn (first++args) captured
   |_=>none
  | .invoke r name=>match ev r with
   |some v=>nJ P glob (.method name) (v::args) []
   |none=>none
def aS (glob:Nat→Option (List AV)) (ev:Operand→Option AV) (o:Oper):Option Eff:=
 match o.op with
 | .move x=>a0 (ev x)
 | .assign x=>a0 (ev x)
 | .pick c a b=>nK ev c a b
 | .alloc t=>ur P t
 | .box _ x=>e1 ev x jK
 | .build t parts=>nL P ev t parts
 | .buildSlice t n parts=>jL P ev t n parts
 | .load t a=>e1 ev a fun a=>dk P t a glob
 | .store t a x=>e2 ev a x (iC P t)
 | .nilCheck x=>e1 ev x fun v=>a0 (lz v)
 | .binOp op t x y _=>e2 ev x y fun v w=>a0 (an P op t x y v w)
 | .unOp op _ x=>e1 ev x fun v=>a0 (qy op v)
 | .convert s d x=>e1 ev x (fo P s d)
 | .makeInterface t x=>qS P ev t x
 | .makeFunc fn a b=>qT ev fn a b
 | .makeMap _ none=>some (.new (.mapb 0 [] []) .map)
 | .makeSlice t l c=>e2 ev l c (lA P t)
 | .slice t x lo hi mx=>lP P ev t x lo hi mx
 | .fieldAddr t x f=>e1 ev x fun v=>a0 (lD P t v f)
 | .field t x f=>qU P ev t x f
 | .indexAddr t x i=>e2 ev x i fun v w=>a0 (aJ P t v w)
 | .index t x i=>e2 ev x i fun v w=>a0 (cX P t v w)
 | .lookup t m k ok=>e2 ev m k fun m k=>qG P t m k ok
 | .mapUpdate t m k v=>e3 ev m k v (qH P t)
 | .typeAssert x _ a ok=>e1 ev x fun v=>a0 (qP P v a ok)
 | .extract t i=>nM ev t i
 | .range t x=>e1 ev x fun v=>qK P t v
 | .next x b=>e1 ev x fun v=>qL v b
 | .entry x=>e1 ev x fun v=>qM v
 | .call c=>fu P glob ev c
 |_=>none
end
def zB (P:Program) (f:FuncId):Bool:=match P.funcs[f]? with
 |some fn=>fn.name== "locksmith/locksmithlaw19.of"
 |none=>false
def qV (d:Nat):List Operand→Bool
 |[]=>false
 | .tmp x::t=>match Nat.beq x d with
  |true=>true
  |false=>qV d t
 |_::t=>qV d t
def ut (P:Program):List Oper→Nat→Bool
 |[],_=>false
 | c::t,d=>match (match c.op with
   | .convert s u (.tmp x)=>Nat.beq s u&&Nat.beq x d
   | .call c=>match c.callee with
    | .value (.func f)=>qV d c.args.toList&&zB P f
    |_=>false
   |_=>false) with
  |true=>true
  |false=>ut P t d
def bm (P:Program) (glob:Nat→Option (List AV)) (ops:List Oper) (ev:Operand→Option AV) (o:Oper):Option Eff:=
 match o.op,o.dst with
 | .buildSlice t n parts,some d=>match ut P ops d with
  |true=>qR P ev t n parts
  |false=>aS P glob ev o
 |_,_=>aS P glob ev o
structure St where
 slots:Tr
 heap:aa
 nx:Nat
 n:Nat
def aL (slots:Tr):Operand→Option AV
 | .tmp t=>slots.get t
 | .const v=>ofValue v
 | .global g=>some (.gptr g 0)
 | .func f=>some (.func (.func f) [] [])
structure Foot where
 all:Bool
 r:List Nat
 w:List Nat
def iL:List Nat→List Nat→Bool
 |[],_=>true
 |a::t,l=> !cz l a&&iL t l
def Foot.none (f:Foot):Bool:= !f.all&&f.r.isEmpty&&f.w.isEmpty
def Foot.apart (f g:Foot):Bool:=match g.w with
 |n::l=>(iJ f.r n&&iJ f.w n)&&(iL f.w (g.r++l)&&iL l f.r)
 |[]=>false
def Foot.compat (f g:Foot):Bool:=
 f.none||g.none||(match f.all,g.all with
  |false,false=>iL f.w (g.r++g.w)&&iL g.w f.r
  |false,true=>f.apart g
  |true,false=>g.apart f
  |true,true=>false)
abbrev aB:=FuncId→List AV→Nat→aa→Nat→Option (AV × aa × Nat × Foot)
def aG (call:aB) (id:Nat):Nat→Eff→aa→Nat→Option (AV × aa × Nat × Foot)
 |_,.val v,h,nx=>some (v,h,nx,⟨false,[],[]⟩)
 |_,.skip,h,nx=>some (dE,h,nx,⟨false,[],[]⟩)
 | _,.upd i k,h,nx=>match hget h i with
  |some b=>match k b with
   |some (b',v)=>some (v,aP h i b',nx,⟨false,[],[i]⟩)
   |none=>none
  |none=>none
 |_,.new b k,h,nx=>some (k id,aP h id b,nx,⟨false,[],[id]⟩)
 | _,.repl i k,h,nx=>match hget h i with
  |some b=>match k b with
   |some (b',v)=>some (v id,aP (aK h i) id b',nx,⟨false,[],[i,id]⟩)
   |none=>none
  |none=>none
 | _,.shut i k,h,nx=>match hget h i with
  |some b=>match k b with
   |some v=>some (v,aK h i,nx,⟨false,[],[i]⟩)
   |none=>none
  |none=>none
 |_,.call f args,h,nx=>call f args id h nx
 |0,.read _ _,_,_=>none
 | n+1,.read i k,h,nx=>match hget h i with
  | some b=>match k b with
   |some e=>match aG call id n e h nx with
    |some (v,h',nx',ft)=>some (v,h',nx',⟨ft.all,i::ft.r,ft.w⟩)
    |none=>none
   |none=>none
  |none=>none
def bN (ops:List Oper) (o:Oper) (slots:Tr):Option Bool:=
 match o.guard with
 |none=>some true
 | some (j,want)=>match bF ops j with
  | some g=>match g.dst with
   |some d=>match slots.get d with
    |some (.bool b)=>some (b==want)
    |some (.tuple [])=>some false
    |_=>none
   |none=>none
  |none=>none
def bn (n:Nat) (slots:Tr):Option Tmp→AV→Tr
 |some d,v=>match Nat.blt d n with
  |true=>slots.set 12 d v
  |false=>slots
 |none,_=>slots
section
variable (P:Program) (glob:Nat→Option (List AV)) (call:aB)
def bY (ops:List Oper) (id:Nat) (o:Oper) (s:St):Option (St × Foot):=
 match bN ops o s.slots with
 | some true=>match bm P glob ops (aL s.slots) o with
  |some e=>match aG call id 2 e s.heap s.nx with
   |some (v,h,nx,ft)=>some (⟨bn s.n s.slots o.dst v,h,nx,s.n⟩,ft)
   |none=>none
  |none=>none
 |some false=>some (⟨bn s.n s.slots o.dst dE,s.heap,s.nx,s.n⟩,⟨false,[],[]⟩)
 |none=>none
def bR (all:List Oper) (base:Nat):List Oper→Nat→St→List (Nat × Foot)→Option (St × List (Nat × Foot))
 |[],_,s,acc=>some (s,acc)
 |o::rest,i,s,acc=>match bY P glob call all (base+i) o s with
  |some (s',ft)=>bR all base rest (i+1) s' (match ft.none with|true=>acc|false=>(i,ft)::acc)
  |none=>none
end
def iM (e:Edge):Bool:=match e.ground with
 | .textOnly _| .gcOnly _=>false
 |_=>true
def lQ (acc:List Nat) (es:List Edge):Nat:=
 es.foldl (fun s e=>if iM e then s|||2^e.on|||(bF acc e.on).getD 0 else s) 0
def cv:List Oper→List Nat→List Nat
 |[],acc=>acc
 |o::t,acc=>cv t (acc++[lQ acc o.after.toList])
def fv (bs:List Nat):List (Nat × Foot)→Bool
 |[]=>true
 |(j,fj)::t=>(t.all fun (i,fi)=>(((bF bs j).getD 0).testBit i)||fi.compat fj)&&fv bs t
def iN (ops:List Oper) (o:Oper):List Tmp:=
  (o.op.operands.toList.filterMap fun| .tmp t=>some t|_=>none)++
  (match o.guard with
   |some (g,_)=>((bF ops g).bind (·.dst)).toList
   |none=>[])
def iO (ops:List Oper) (x y:Oper):Bool:=
  (match x.dst with
   |some d=> !cz (iN ops y) d&&(match y.dst with|some e=> !Nat.beq e d|none=>true)
   |none=>true)&&
  (match y.dst with
   |some d=> !cz (iN ops x) d
   |none=>true)
def nN (ops:List Oper) (bj:Nat) (oj:Oper):List Oper→Nat→Bool
 |[],_=>true
 |oi::t,i=>(bj.testBit i||iO ops oi oj)&&nN ops bj oj t (i+1)
def nO (ops:List Oper) (bs:List Nat):List Oper→Nat→Bool
 |[],_=>true
 |oj::t,j=>nN ops ((bF bs j).getD 0) oj (ops.take j) 0&&nO ops bs t (j+1)
def nP:List Oper→Nat→Bool
 |[],_=>true
 |o::t,j=>(o.after.toList.all fun e=> !iM e||Nat.blt e.on j)&&nP t (j+1)
def fZ (ops:List Oper):Bool:=nP ops 0&&nO ops (cv ops []) ops 0
inductive AExit where
 |normal
 |exit (id:Nat)
 |ret
def jM (body:St→Option (AExit × St)):Nat→St→Option (AExit × St)
 |0,_=>none
 |n+1,s=>match body s with
  |some (.normal,s')=>jM body n s'
  |r=>r
section
variable (P:Program) (glob:Nat→Option (List AV)) (call:aB)
def bv (lf:Nat):Code→St→Option (AExit × St)
 | .skip,s| .label _,s=>some (.normal,s)
 | .region _ ops draw,s=>
  match bR P glob call ops.toList s.nx ops.toList 0 ⟨s.slots,s.heap,s.nx+ac ops.toList,s.n⟩ [] with
  | some (s',feet)=>match draw with
   |false=>some (.normal,s')
   |true=>match fZ ops.toList&&fv (cv ops.toList []) feet with
    |true=>some (.normal,s')
    |false=>none
  |none=>none
 | .seq a b,s=>match bv lf a s with
  |some (.normal,s')=>bv lf b s'
  |r=>r
 | .cond c a b,s=>match aL s.slots c with
  |some (.bool true)=>bv lf a s
  |some (.bool false)=>bv lf b s
  |_=>none
 | .block id body,s=>match bv lf body s with
  |some (.exit i,s')=>match Nat.beq i id with
   |true=>some (.normal,s')
   |false=>some (.exit i,s')
  |r=>r
 | .loop body,s=>jM (bv lf body) lf s
 | .exit id,s=>some (.exit id,s)
 | .ret,s=>some (.ret,s)
 |_,_=>none
end
mutual
def ad:AV→Bool
 | .ptr _ _| .rsl _ _ _ _ _| .map _=>false
 | .fptr cs _| .fsl _ cs| .agg cs| .tuple cs=>ae cs
 | .func _ a b=>ae a&&ae b
 | .iface _ v=>ad v
 |_=>true
def ae:List AV→Bool
 |[]=>true
 |a::t=>ad a&&ae t
end
def bg (f:AV→Option AV):List AV→Option (List AV)
 |[]=>some []
 | a::t=>match f a with
  |some b=>match bg f t with
   |some u=>some (b::u)
   |none=>none
  |none=>none
def ay (n:Nat) (h:aa):Nat→AV→Option AV
 |0,_=>none
 | d +1,v=>match v with
  | .ptr id off=>match Nat.blt id n with
   |true=>some v
   | false=>match hget h id with
    |some (.cells l)=>match bg (ay n h d) l with
     |some l'=>some (.fptr l' off)
     |none=>none
    |_=>none
  | .rsl _ id off len sz=>match Nat.blt id n with
   |true=>some v
   | false=>match hget h id with
    | some (.cells l)=>match gG sz len (l.drop off) with
     |some es=>match bg (ay n h d) es with
      |some es'=>some (.fsl false es')
      |none=>none
     |none=>none
    |_=>none
  | .fptr cs off=>match bg (ay n h d) cs with
   |some cs'=>some (.fptr cs' off)
   |none=>none
  | .fsl f es=>match bg (ay n h d) es with
   |some es'=>some (.fsl f es')
   |none=>none
  | .agg cs=>match bg (ay n h d) cs with
   |some cs'=>some (.agg cs')
   |none=>none
  | .tuple cs=>match bg (ay n h d) cs with
   |some cs'=>some (.tuple cs')
   |none=>none
  | .func fn a b=>match bg (ay n h d) a,bg (ay n h d) b with
   |some a',some b'=>some (.func fn a' b')
   |_,_=>none
  | .iface t v=>match ay n h d v with
   |some v'=>some (.iface t v')
   |none=>none
  | .map id=>match Nat.blt id n with
   |true=>some v
   |false=>none
  |v=>some v
def dW (n:Nat):aa→aa
 |[]=>[]
 |(i,b)::t=>match Nat.blt i n with
  |true=>(i,b)::dW n t
  |false=>dW n t
def ci (P:Program) (glob:Nat→Option (List AV)) (s:St):List ResultVar→Option (List AV)
 |[]=>some []
 | r ::t=>
  match (match r with
   | .tmp x=>s.slots.get x
   | .cell a ty=>match s.slots.get a with
    | some p=>match dk P ty p glob with
     |some (.val v)=>some v
     | some (.read id k)=>match hget s.heap id with
      |some b=>match k b with
       |some (.val v)=>some v
       |_=>none
      |none=>none
     |_=>none
    |none=>none) with
  |some v=>match ci P glob s t with
   |some l=>some (v::l)
   |none=>none
  |none=>none
def cd:List AV→AV
 |[v]=>v
 |l=> .tuple l
inductive lR where
 |pure|fresh|keep
 |look (d:Nat)|each (d:Nat)|clone
 |part (d:Nat)|cmp|known
def ce:List AV→Nat→Tr→Tr
 |[],_,t=>t
 |v::vs,k,t=>ce vs (k+1) (t.set 12 k v)
structure aH where
 how:FuncId→lR
 summ:FuncId→List AV→Option AV
 glob:Nat→Option (List AV)
 lf:Nat
 cx:aB:=fun _ _ _ _ _=>none
def dm (P:Program) (O:aH) (call:aB) (f:FuncId) (args:List AV) (h:aa) (nx:Nat):Option (AV × aa × Nat):=
  match P.funcs[f]? with
  | some fn=>match fn.body with
    | some c=>match fn.name== "runtime.NumGoroutine" with
      |true=>none
      | false=>match Nat.ble (ac args) fn.ntmps&&Nat.ble fn.ntmps 4095 with
       |false=>none
       |true=>match bv P O.glob call O.lf c ⟨ce args 0 .tip,h,nx,fn.ntmps⟩ with
        | some (.normal,s)|some (.ret,s)=>match ci P O.glob s fn.results.toList with
          |some l=>some (cd l,s.heap,s.nx)
          |none=>none
        |_=>none
    |none=>none
  |none=>none
def ew (h':aa) (v:AV) (id:Nat) (h:aa) (nx:Nat):Option (AV × aa × Nat × Foot):=
 match v with
 | .rsl true i 0 len sz=>match hget h' i with
  | some (.cells l)=>match bg (ay 0 (aK h' i) 40) l with
   |some l'=>match ae l' with
    |true=>some (.rsl true id 0 len sz,aP h id (.cells l'),nx,⟨false,[],[id]⟩)
    |false=>none
   |none=>none
  |_=>none
 | .ptr i off=>match hget h' i with
  | some (.cells l)=>match bg (ay 0 (aK h' i) 40) l with
   |some l'=>match ae l' with
    |true=>some (.ptr id off,aP h id (.cells l'),nx,⟨false,[],[id]⟩)
    |false=>none
   |none=>none
  |_=>none
 | v=>match ay 0 h' 40 v with
  |some v'=>match ad v' with
   |true=>some (v',h,nx,⟨false,[],[]⟩)
   |false=>none
  |none=>none
def jN (i:Nat) (acc:List Nat):List Nat:=match cz acc i with
 |true=>acc
 |false=>i::acc
mutual
def dn:AV→List Nat→List Nat
 | .ptr i _,acc=>jN i acc
 | .rsl _ i _ _ _,acc=>jN i acc
 | .map i,acc=>jN i acc
 | .fptr cs _,acc=>aU cs acc
 | .fsl _ cs,acc=>aU cs acc
 | .agg cs,acc=>aU cs acc
 | .tuple cs,acc=>aU cs acc
 | .func _ a b,acc=>aU b (aU a acc)
 | .iface _ v,acc=>dn v acc
 |_,acc=>acc
def aU:List AV→List Nat→List Nat
 |[],acc=>acc
 |a::t,acc=>aU t (dn a acc)
end
def nQ:List (AV × AV)→List Nat→List Nat
 |[],acc=>acc
 |(a,b)::t,acc=>nQ t (dn b (dn a acc))
def qW:Blk→List Nat→List Nat
 | .cells l,acc=>aU l acc
 | .siter _ _,acc=>acc
 | .mapb _ _ es,acc=>nQ es acc
 | .miter m _ _ _,acc=>jN m acc
def gH (h:aa):List Nat→List Nat→List Nat
 |[],acc=>acc
 |i::t,acc=>match hget h i with
  |some b=>gH h t (qW b acc)
  |none=>gH h t acc
def aY (h:aa):Nat→List Nat→List Nat
 |0,l=>l
 |d+1,l=>aY h d (gH h l l)
def a9 (h:aa):List Nat→aa
 |[]=>[]
 |i::t=>bu (a9 h t) i (hget h i)
mutual
def cq (n:Nat):AV→Bool
 | .ptr i _=>Nat.blt i n
 | .rsl _ i _ _ _=>Nat.blt i n
 | .map i=>Nat.blt i n
 | .fptr cs _=>ey n cs
 | .fsl _ cs=>ey n cs
 | .agg cs=>ey n cs
 | .tuple cs=>ey n cs
 | .func _ a b=>ey n a&&ey n b
 | .iface _ v=>cq n v
 |_=>true
def ey (n:Nat):List AV→Bool
 |[]=>true
 |a::t=>cq n a&&ey n t
end
def lS (n:Nat):List (AV × AV)→Bool
 |[]=>true
 |(a,b)::t=>cq n a&&(cq n b&&lS n t)
def lT (n:Nat):Blk→Bool
 | .cells l=>ey n l
 | .siter _ _=>true
 | .mapb _ _ es=>lS n es
 | .miter m _ _ _=>Nat.blt m n
mutual
def f5:AV→AV→Bool
 | .bool a,.bool b=>(a&&b)||(!a&& !b)
 | .int k a,.int k' b=>decide (k=k')&&ag a b
 | .str a,.str b=>cW a b
 | .ptr i o,.ptr j p=>Nat.beq i j&&Nat.beq o p
 | .nilp,.nilp=>true
 | .fptr a o,.fptr b p=>Nat.beq o p&&c8 a b
 | .fsl f a,.fsl g b=>((f&&g)||(!f&& !g))&&c8 a b
 | .rsl f i o l z,.rsl g j p m y=>((f&&g)||(!f&& !g))&&(Nat.beq i j&&(Nat.beq o p&&(Nat.beq l m&&Nat.beq z y)))
 | .nilsl,.nilsl=>true
 | .nesl,.nesl=>true
 | .map i,.map j=>Nat.beq i j
 | .nilmap,.nilmap=>true
 | .func (.func f) a b,.func (.func g) c d=>Nat.beq f g&&(c8 a c&&c8 b d)
 | .nilFunc,.nilFunc=>true
 | .iface t v,.iface u w=>Nat.beq t u&&f5 v w
 | .nilIface,.nilIface=>true
 | .agg a,.agg b=>c8 a b
 | .tuple a,.tuple b=>c8 a b
 |_,_=>false
def c8:List AV→List AV→Bool
 |[],[]=>true
 |a::t,b::u=>f5 a b&&c8 t u
 |_,_=>false
end
def jO:List (AV × AV)→List (AV × AV)→Bool
 |[],[]=>true
 |(a,b)::t,(c,d)::u=>f5 a c&&(f5 b d&&jO t u)
 |_,_=>false
def jP:List Nat→List Nat→Bool
 |[],[]=>true
 |a::t,b::u=>Nat.beq a b&&jP t u
 |_,_=>false
def nR:Blk→Blk→Bool
 | .cells a,.cells b=>c8 a b
 | .mapb c s a,.mapb d t b=>Nat.beq c d&&(jP s t&&jO a b)
 |_,_=>false
def jQ (f:AV→Option AV):List (AV × AV)→Option (List (AV × AV))
 |[]=>some []
 | (a,b)::t=>match f a with
  | some a'=>match f b with
   |some b'=>match jQ f t with
    |some u=>some ((a',b')::u)
    |none=>none
   |none=>none
  |none=>none
def gI (n:Nat) (h:aa):Blk→Option Blk
 | .cells l=>match bg (ay n h 40) l with
  |some l'=>some (.cells l')
  |none=>none
 | .mapb cl st es=>match jQ (ay n h 40) es with
  |some es'=>some (.mapb cl st es')
  |none=>none
 |b=>some b
abbrev Mods:=List (Nat × Option Blk)
def Mods.app:Mods→aa→aa
 |[],h=>h
 |(k,b)::t,h=>Mods.app t (bu h k b)
def Mods.keys:Mods→List Nat
 |[]=>[]
 |(k,_)::t=>k::Mods.keys t
def eR (n:Nat) (h1 h:aa):List Nat→Option Mods
  |[]=>some []
  | i :: t => match Nat.blt i n with
   |false=>none
   | true =>match eR n h1 h t with
    | some m=>match hget h1 i,hget h i with
      |none,none=>some m
      |none,some _=>some ((i,none)::m)
      | some b,o=>match gI n h1 b with
        | some b'=>match lT n b' with
          | true=>match (match o with
              |some c=>nR c b'
              |none=>false) with
            |true=>some m
            |false=>some ((i,some b')::m)
          |false=>none
        |none=>none
    |none=>none
def lookEnd (L:List Nat) (id nx:Nat) (h:aa) (v:AV) (h1:aa):Option (AV × Option (List AV) × Mods):=
  match v with
  | .rsl true i 0 len sz=>match Nat.blt i nx with
    |true=>lookPlain v
    | false=>match hget h1 i with
      | some (.cells l)=>match bg (ay nx (aK h1 i) 40) l with
        | some l'=>match ey nx l',eR nx (aK h1 i) h L with
          |true,some m=>some (.rsl true id 0 len sz,some l',m)
          |_,_=>none
        |none=>none
      |_=>none
  |v=>lookPlain v
 where
  lookPlain (v:AV):Option (AV × Option (List AV) × Mods):=match ay nx h1 40 v with
    | some v'=>match cq nx v',eR nx h1 h L with
      |true,some m=>some (v',none,m)
      |_,_=>none
    |none=>none
def dp (L:List Nat) (id nx:Nat) (h:aa) (r:AV × Option (List AV) × Mods):AV × aa × Nat × Foot:=
 (r.1,(match r.2.1 with
  |none=>Mods.app r.2.2 h
  |some l=>aP (Mods.app r.2.2 h) id (.cells l)),nx,⟨false,nx::L,id::r.2.2.keys⟩)
def iP (P:Program) (O:aH) (call:aB) (d:Nat) (f:FuncId) (args:List AV) (id:Nat) (h:aa) (nx:Nat):Option (AV × aa × Nat × Foot):=
 match dm P O call f args (a9 h (aY h d (aU args []))) nx with
 |some (v,h1,_)=>match lookEnd (aY h d (aU args [])) id nx h v h1 with
  |some r=>some (dp (aY h d (aU args [])) id nx h r)
  |none=>none
 |none=>none
section
variable (P:Program) (glob:Nat→Option (List AV)) (call:aB)
def jR (k:AExit × St→Option (List (AExit × St))):List (AExit × St)→Option (List (AExit × St))
 |[]=>some []
 | a::t=>match k a with
  |some l=>match jR k t with
   |some u=>some (l++u)
   |none=>none
  |none=>none
def lU (body:St→Option (List (AExit × St))):Nat→St→Option (List (AExit × St))
 |0,_=>none
 | n+1,s=>match body s with
  |some l=>jR (fun p=>match p with
   |(.normal,s')=>lU body n s'
   |r=>some [r]) l
  |none=>none
def lV (ops:List Oper) (rest:List Oper) (dst:Option Tmp) (it:Nat) (s:St):List (AV × Blk)→Option (List (AExit × St))
 |[]=>some []
 | (v,b)::t=>match bR P glob call ops (s.nx-ac ops) rest 1 ⟨bn s.n s.slots dst v,aP s.heap it b,s.nx,s.n⟩ [] with
  |some (s',_)=>match lV ops rest dst it s t with
   |some l=>some ((.normal,s')::l)
   |none=>none
  |none=>none
def dq (lf:Nat):Code→St→Option (List (AExit × St))
 | .seq a b,s=>match dq lf a s with
  |some l=>jR (fun p=>match p with
   |(.normal,s')=>dq lf b s'
   |r=>some [r]) l
  |none=>none
 | .cond c a b,s=>match aL s.slots c with
  |some (.bool true)=>dq lf a s
  |some (.bool false)=>dq lf b s
  |_=>none
 | .block id body,s=>match dq lf body s with
  | some l=>jR (fun p=>match p with
   |(.exit i,s')=>match Nat.beq i id with
    |true=>some [(.normal,s')]
    |false=>some [(.exit i,s')]
   |r=>some [r]) l
  |none=>none
 | .loop body,s=>lU (dq lf body) lf s
 | .region rid ops draw,s=>match ops.toList,draw with
  | o ::rest,false=>match o.op,o.guard with
   | .next x false,none=>match aL s.slots x with
    | some (.ptr it 0)=>match hget s.heap it with
     | some (.miter m since seen last)=>match hget s.heap m with
      |some mp=>match jI (.miter m since seen last) mp with
       |some (p::q::t)=>lV P glob call (o::rest) rest o.dst it ⟨s.slots,s.heap,s.nx+ac (o::rest),s.n⟩ (p::q::t)
       |_=>(bv P glob call lf (.region rid ops false) s).map fun r=>[r]
      |none=>none
     |_=>none
    |_=>none
   |_,_=>(bv P glob call lf (.region rid ops false) s).map fun r=>[r]
  |_,draw=>(bv P glob call lf (.region rid ops draw) s).map fun r=>[r]
 |c,s=>(bv P glob call lf c s).map fun r=>[r]
end
def gJ (P:Program) (G:Nat→Option (List AV)) (rs:List ResultVar) (L:List Nat) (id nx:Nat) (h:aa):List (AExit × St)→Option (AV × Option (List AV) × Mods)
 |[]=>none
 | (e,s)::t=>match (match e with
   | .exit _=>none
   |_=>match ci P G s rs with
    |some l=>lookEnd L id nx h (cd l) s.heap
    |none=>none) with
  | some (v,row,[])=>match t with
   |[]=>some (v,row,[])
   | _::_=>match gJ P G rs L id nx h t with
    | some (v',row',[])=>match f5 v v'&&(match row,row' with
      |none,none=>true
      |some a,some b=>c8 a b
      |_,_=>false) with
     |true=>some (v,row,[])
     |false=>none
    |_=>none
  |_=>none
def iQ (P:Program) (O:aH) (call:aB) (d:Nat) (f:FuncId) (args:List AV) (id:Nat) (h:aa) (nx:Nat):Option (AV × aa × Nat × Foot):=
  match P.funcs[f]? with
  | some fn=>match fn.body with
    | some c=>match fn.name== "runtime.NumGoroutine" with
      |true=>none
      | false=>match Nat.ble (ac args) fn.ntmps&&Nat.ble fn.ntmps 4095 with
       |false=>none
       |true=>match dq P O.glob call O.lf c ⟨ce args 0 .tip,a9 h (aY h d (aU args [])),nx,fn.ntmps⟩ with
        | some l=>match gJ P O.glob fn.results.toList (aY h d (aU args [])) id nx h l with
          |some r=>some (dp (aY h d (aU args [])) id nx h r)
          |none=>none
        |none=>none
    |none=>none
  |none=>none
def gK (P:Program) (f:FuncId) (args:List AV) (id:Nat) (h:aa) (nx:Nat):Option (AV × aa × Nat × Foot):=
 match P.funcs[f]? with
 | some fn=>match fn.body.isNone&&(fn.name== "maps.clone" &&fn.origin== "") with
  | true=>match args with
   |[.iface t (.map m)]=>match hget h m with
    |some (.mapb cl st es)=>some (.iface t (.map id),aP h id (.mapb cl st es),nx,⟨false,[m],[id]⟩)
    |_=>none
   |_=>none
  |false=>none
 |none=>none
def dr (nx:Nat) (h1:aa):aa→Mods
 |[]=>[]
 |(k,_)::t=>match Nat.blt k nx with
  |true=>dr nx h1 t
  |false=>(k,hget h1 k)::dr nx h1 t
def dH (h1:aa):List Nat→Mods
 |[]=>[]
 |i::t=>(i,hget h1 i)::dH h1 t
def fw:Mods→Mods→Mods
 |[],m=>m
 |p::t,m=>p::fw t m
def iR (P:Program) (O:aH) (call:aB) (d:Nat) (f:FuncId) (args:List AV) (h:aa) (nx:Nat):Option (AV × aa × Nat × Foot):=
  match dm P O call f args (a9 h (aY h d (aU args []))) nx with
  |some (v,h1,nx')=>match Nat.ble nx nx' with
   |false=>none
   |true=>some (v,Mods.app (fw (dH h1 (aY h d (aU args []))) (dr nx h1 h1)) h,nx',⟨true,aY h d (aU args []),nx::aY h d (aU args [])⟩)
  |none=>none
def gL (P:Program) (f:FuncId) (args:List AV) (h:aa) (nx:Nat):Option (AV × aa × Nat × Foot):=
 match P.funcs[f]? with
 | some fn=>match fn.body.isNone&&(fn.name== "internal/bytealg.abigen_runtime_cmpstring" &&fn.origin== "") with
  | true=>match args with
   | [.str a,.str b]=>some (.int .i64 (match dF a b with
    |true=> -1
    |false=>match dF b a with
     |true=>1
     |false=>0),h,nx,⟨false,[],[]⟩)
   |_=>none
  |false=>none
 |none=>none
def aM (P:Program) (O:aH):Nat→aB
 |0,_,_,_,_,_=>none
 | n +1,f,args,id,h,nx=>
  match O.how f,ae args with
  | .look d,_=>iP P O (aM P O n) d f args id h nx
  | .each d,_=>iQ P O (aM P O n) d f args id h nx
  | .clone,_=>gK P f args id h nx
  | .part d,_=>iR P O (aM P O n) d f args h nx
  | .cmp,_=>gL P f args h nx
  | .known,_=>O.cx f args id h nx
  | .pure,true=>match O.summ f args with
   |some v=>some (v,h,nx,⟨false,[],[]⟩)
   | none=>match dm P O (aM P O n) f args [] 0 with
    | some (v,h',_)=>match ay 0 h' 40 v with
     |some v'=>match ad v' with
      |true=>some (v',h,nx,⟨false,[],[]⟩)
      |false=>none
     |none=>none
    |none=>none
  | .fresh,true=>match dm P O (aM P O n) f args [] 0 with
   |some (v,h',_)=>ew h' v id h nx
   |none=>none
  | .pure,false=>match dm P O (aM P O n) f args h nx with
   |some (v,h',nx')=>match ay nx h' 40 v with
    |some v'=>some (v',dW nx h',nx',⟨true,[],[]⟩)
    |none=>none
   |none=>none
  |_,_=>match dm P O (aM P O n) f args h nx with
   |some (v,h',nx')=>some (v,h',nx',⟨true,[],[]⟩)
   |none=>none
end
end Go.Proofs.Abs
/- How trees stand for the model's values, and short heaps for its memory. -/
namespace Go.Proofs.Abs
open Go
inductive Rep (w:World) (I:Nat→Prop) (α:Nat→Option Nat):AV→Value→Prop
 |bool (b:Bool):Rep w I α (.bool b) (.bool b)
 |int (k:IntKind) (n:Int):Rep w I α (.int k n) (.int k n)
 |str (s:List UInt8) (b:ByteArray) (h:b.data.toList=s):Rep w I α (.str s) (.string b)
 |ptr (id off b:Nat) (h:α id=some b):Rep w I α (.ptr id off) (.pointer (some ⟨b,off,none⟩))
 |nilp:Rep w I α .nilp (.pointer none)
 | fptr (cs:List AV) (off b base:Nat) (g:Nat→Value) (hI:I b)
   (hg:∀j c,cs[j]? =some c→w.cell? ⟨b,base+j,none⟩=some (g j))
   (hr:∀j c,cs[j]? =some c→Rep w I α c (g j)):Rep w I α (.fptr cs off) (.pointer (some ⟨b,base+off,none⟩))
 |gptr (g off:Nat):Rep w I α (.gptr g off) (.pointer (some ⟨g,off,none⟩))
 | fsl (full:Bool) (es:List AV) (a:Option Addr) (len cap sz b base:Nat) (g:Nat→Nat→Value) (hl:es.length=len) (hc:len≤cap)
   (hf:full=true→cap=len) (ha:a=some ⟨b,base,none⟩∨(a=none∧cap=0)) (hI:es≠[]→I b)
   (hs:∀e∈es,e.cells.length=sz)
   (hg:∀i e j c,es[i]? =some e→e.cells[j]? =some c→w.cell? ⟨b,base+i*sz+j,none⟩=some (g i j))
   (hr:∀i e j c,es[i]? =some e→e.cells[j]? =some c→Rep w I α c (g i j)):Rep w I α (.fsl full es) (.slice a len cap)
 | rsl (own:Bool) (id off len sz cap b:Nat) (h:α id=some b) (hc:len≤cap)
   (ho:own=true→∃e n,w.shape? b=some (e,n)∧off+cap*sz=n):Rep w I α (.rsl own id off len sz) (.slice (some ⟨b,off,none⟩) len cap)
 |nilsl:Rep w I α .nilsl (.slice none 0 0)
 |nesl (a:Addr) (cap:Nat):Rep w I α .nesl (.slice (some a) 0 cap)
 |map (id b:Nat) (h:α id=some b):Rep w I α (.map id) (.map (some b))
 |nilmap:Rep w I α .nilmap (.map none)
 | func (fn:Fn) (a c:List AV) (a' c':Array Value) (h1:a.length=a'.size) (h2:c.length=c'.size)
   (h3:∀ (i:Nat) x y,a[i]? =some x→a'[i]? =some y→Rep w I α x y) (h4:∀ (i:Nat) x y,c[i]? =some x→c'[i]? =some y→Rep w I α x y):
   Rep w I α (.func fn a c) (.func fn a' c')
 |nilFunc:Rep w I α .nilFunc .nilFunc
 |iface (t:TypeId) (v:AV) (v':Value) (h:Rep w I α v v'):Rep w I α (.iface t v) (.iface t v')
 |nilIface:Rep w I α .nilIface .nilIface
 |agg (a:List AV) (a':Array Value) (h1:a.length=a'.size) (h2:∀ (i:Nat) x y,a[i]? =some x→a'[i]? =some y→Rep w I α x y):Rep w I α (.agg a) (.agg a')
 |tuple (a:List AV) (a':Array Value) (h1:a.length=a'.size) (h2:∀ (i:Nat) x y,a[i]? =some x→a'[i]? =some y→Rep w I α x y):Rep w I α (.tuple a) (.tuple a')
theorem nS {es:List AV} {a:Option Addr} {len cap b base:Nat} (hl:es.length=len) (hc:len≤cap) (ha:a=some ⟨b,base,none⟩∨(a=none∧cap=0)) (hne:es≠[]):a=some ⟨b,base,none⟩:=by
 rcases ha with h|⟨_,h0⟩
 ·exact h
 ·exact absurd (List.eq_nil_of_length_eq_zero (by omega)) hne
section
variable {w w':World} {I I':Nat→Prop} {α α':Nat→Option Nat}
theorem Rep.mono {a:AV} {v:Value} (h:Rep w I α a v) (hI:∀b,I b→I' b) (hα:∀id b,α id=some b→α' id=some b)
  (hc:∀b o,I b→w'.cell? ⟨b,o,none⟩=w.cell? ⟨b,o,none⟩) (hs:∀id b,α id=some b→w'.shape? b=w.shape? b):Rep w' I' α' a v:=by
 induction h with
 |bool b=>exact .bool b
 |int k n=>exact .int k n
 |str s b h=>exact .str s b h
 |ptr id off b h=>exact .ptr id off b (hα _ _ h)
 |nilp=>exact .nilp
 |fptr cs off b base g hIb hg hr ih=>exact .fptr cs off b base g (hI _ hIb) (fun j c e=>by rw[hc b _ hIb];exact hg j c e) ih
 |gptr g off=>exact .gptr g off
 |fsl full es a len cap sz b base g hl hcap hf ha hIb hsz hg hr ih=>
  refine .fsl full es a len cap sz b base g hl hcap hf ha (fun h=>hI _ (hIb h)) hsz (fun i e j c h1 h2=> ?_) ih
  have hne:es≠[]:=by intro h;simp[h] at h1
  rw[hc b _ (hIb hne)];exact hg i e j c h1 h2
 |rsl own id off len sz cap b h hcap ho=>exact .rsl own id off len sz cap b (hα _ _ h) hcap (fun he=>by rw[hs _ _ h];exact ho he)
 |nilsl=>exact .nilsl
 |nesl a cap=>exact .nesl a cap
 |map id b h=>exact .map id b (hα _ _ h)
 |nilmap=>exact .nilmap
 |func fn a c a' c' h1 h2 _ _ ih1 ih2=>exact .func fn a c a' c' h1 h2 ih1 ih2
 |nilFunc=>exact .nilFunc
 |iface t v v' _ ih=>exact .iface t v v' ih
 |nilIface=>exact .nilIface
 |agg a a' h1 _ ih=>exact .agg a a' h1 ih
 |tuple a a' h1 _ ih=>exact .tuple a a' h1 ih
end
def RepL (w:World) (I:Nat→Prop) (α:Nat→Option Nat) (a:List AV) (v:List Value):Prop:=
 a.length=v.length∧∀ (i:Nat) x y,a[i]? =some x→v[i]? =some y→Rep w I α x y
section
variable {w:World} {I:Nat→Prop} {α:Nat→Option Nat}
theorem RepL.nil:RepL w I α [] []:=⟨rfl,by simp⟩
theorem RepL.cons {x:AV} {y:Value} {a:List AV} {v:List Value} (h:Rep w I α x y) (t:RepL w I α a v):RepL w I α (x::a) (y::v):=
 ⟨by simp[t.1],fun i x' y' h1 h2=>by
  cases i with
  |zero=>simp at h1 h2;subst h1;subst h2;exact h
  |succ i=>simp at h1 h2;exact t.2 i _ _ h1 h2⟩
theorem RepL.cons_inv {x:AV} {a:List AV} {v:List Value} (h:RepL w I α (x::a) v):∃y v',v=y::v'∧Rep w I α x y∧RepL w I α a v':=by
 match v,h with
 |[],h=>simp[RepL] at h
 |y::v',h=>exact ⟨y,v',rfl,h.2 0 _ _ rfl rfl,⟨by have:=h.1;simpa using this,fun i x' y' h1 h2=>h.2 (i+1) _ _ (by simpa using h1) (by simpa using h2)⟩⟩
theorem RepL.nil_inv {v:List Value} (h:RepL w I α [] v):v=[]:=by
 exact List.eq_nil_of_length_eq_zero (by have:=h.1;simpa using this.symm)
theorem RepL.get {a:List AV} {v:List Value} (h:RepL w I α a v) {i:Nat} {x:AV} (hx:a[i]? =some x):∃y,v[i]? =some y∧Rep w I α x y:=by
 have hi:i<a.length:=by
  rcases Nat.lt_or_ge i a.length with h'|h'
  ·exact h'
  ·simp[List.getElem?_eq_none h'] at hx
 have hi':i<v.length:=by rw[←h.1];exact hi
 exact ⟨v[i],by simp,h.2 i _ _ hx (by simp)⟩
theorem RepL.append {a c:List AV} {v u:List Value} (h:RepL w I α a v) (h':RepL w I α c u):RepL w I α (a++c) (v++u):=by
 refine ⟨by simp[h.1,h'.1],fun i x y h1 h2=> ?_⟩
 by_cases hi:i<a.length
 ·rw[List.getElem?_append_left hi] at h1
  rw[List.getElem?_append_left (by rw[←h.1];exact hi)] at h2
  exact h.2 i _ _ h1 h2
 ·have hi:=Nat.le_of_not_lt hi
  rw[List.getElem?_append_right hi] at h1
  rw[List.getElem?_append_right (by rw[←h.1];exact hi)] at h2
  rw[←h.1] at h2
  exact h'.2 _ _ _ h1 h2
theorem Rep.agg_iff {a:List AV} {v:Value}:Rep w I α (.agg a) v↔∃a',v= .agg a'∧RepL w I α a a'.toList:=by
 constructor
 ·intro h
  cases h with
  |agg _ a' h1 h2=>exact ⟨a',rfl,by simpa using h1,fun i x y e1 e2=>h2 i x y e1 (by simpa using e2)⟩
 ·rintro ⟨a',rfl,h1,h2⟩
  exact .agg a a' (by simpa using h1) (fun i x y e1 e2=>h2 i x y e1 (by simpa using e2))
theorem Rep.tuple_iff {a:List AV} {v:Value}:Rep w I α (.tuple a) v↔∃a',v= .tuple a'∧RepL w I α a a'.toList:=by
 constructor
 ·intro h
  cases h with
  |tuple _ a' h1 h2=>exact ⟨a',rfl,by simpa using h1,fun i x y e1 e2=>h2 i x y e1 (by simpa using e2)⟩
 ·rintro ⟨a',rfl,h1,h2⟩
  exact .tuple a a' (by simpa using h1) (fun i x y e1 e2=>h2 i x y e1 (by simpa using e2))
theorem Rep.func_iff {fn:Fn} {a c:List AV} {v:Value}:Rep w I α (.func fn a c) v↔∃a' c',v= .func fn a' c'∧RepL w I α a a'.toList∧RepL w I α c c'.toList:=by
 constructor
 ·intro h
  cases h with
  |func _ _ _ a' c' h1 h2 h3 h4=>exact ⟨a',c',rfl,⟨by simpa using h1,fun i x y e1 e2=>h3 i x y e1 (by simpa using e2)⟩,⟨by simpa using h2,fun i x y e1 e2=>h4 i x y e1 (by simpa using e2)⟩⟩
 ·rintro ⟨a',c',rfl,⟨h1,h2⟩,⟨h3,h4⟩⟩
  exact .func fn a c a' c' (by simpa using h1) (by simpa using h3) (fun i x y e1 e2=>h2 i x y e1 (by simpa using e2)) (fun i x y e1 e2=>h4 i x y e1 (by simpa using e2))
theorem Rep.cells {a:AV} {v:Value} (h:Rep w I α a v):RepL w I α a.cells v.cells.toList:=by
 cases h with
 |agg a a' h1 h2=>exact ⟨by simpa [AV.cells,Value.cells] using h1,fun i x y e1 e2=>h2 i x y (by simpa [AV.cells] using e1) (by simpa [Value.cells] using e2)⟩
 |_=>exact .cons (by constructor<;>assumption) .nil
theorem Rep.one {a:AV} {v:Value} (h:Rep w I α a v) (ho:a.one=true):v.oneCell'=true:=by
 cases h<;>simp_all [AV.one,Value.oneCell']
end
def BRel (w:World) (I:Nat→Prop) (α:Nat→Option Nat) (b:Nat):Blk→Prop
 | .cells l=>∃c e,w.heap[b]? =some (.cells c e (0,0))∧l.length≤c.size∧RepL w I α l (c.toList.take l.length)
 | .siter s pos=>∃bs,w.heap[b]? =some (.stringIter bs pos)∧bs.data.toList=s
 | .mapb clock st es=>∃en,w.heap[b]? =some (.map en clock)∧es.length=en.size∧st=en.toList.map (·.born)∧
   ∀ (i:Nat) x y,es[i]? =some x→en[i]? =some y→Rep w I α x.1 y.key∧Rep w I α x.2 y.val
 | .miter m since seen last=>∃mb,α m=some mb∧w.heap[b]? =some (.mapIter (some mb) since seen.toArray last)
abbrev ax:=Nat→Option (List AV)
structure Rel (G:ax) (w:World) (I:Nat→Prop) (α:Nat→Option Nat) (H:aa):Prop where
 live:∀id blk,hget H id=some blk→∃b,α id=some b∧¬I b∧BRel w I α b blk
 inj:∀id id' b,hget H id≠none→hget H id'≠none→α id=some b→α id'=some b→id=id'
 imm:∀b,I b→b<w.heap.size
 dom:∀id b,α id=some b→b<w.heap.size
 glob:∀g l,G g=some l→I g∧∀ (j:Nat) x,l[j]? =some x→∃y,w.cell? ⟨g,j,none⟩=some y∧Rep w I α x y
def bc (α:Nat→Option Nat) (H:aa) (b:Nat):Prop:=∃id,hget H id≠none∧α id=some b
def SameOs (w w':World):Prop:=w'.os=w.os∧w'.tape=w.tape∧w'.output=w.output
theorem SameOs.refl (w:World):SameOs w w:=⟨rfl,rfl,rfl⟩
theorem SameOs.trans {w w' w'':World} (h:SameOs w w') (h':SameOs w' w''):SameOs w w'':=⟨h'.1.trans h.1,h'.2.1.trans h.2.1,h'.2.2.trans h.2.2⟩
structure Ev (w:World) (I:Nat→Prop) (α:Nat→Option Nat) (H:aa) (w':World) (I':Nat→Prop) (α':Nat→Option Nat) (H':aa):Prop where
 os:SameOs w w'
 I_mono:∀b,I b→I' b
 α_mono:∀id b,α id=some b→α' id=some b
 size:w.heap.size≤w'.heap.size
 frame:∀b,b<w.heap.size→¬bc α H b→w'.heap[b]? =w.heap[b]?
 shape:∀b,b<w.heap.size→w'.shape? b=w.shape? b
 Inew:∀b,I' b→I b∨w.heap.size≤b∨bc α H b
 own:∀b,bc α' H' b→w.heap.size≤b∨bc α H b
section
variable {G:ax} {w w' w'':World} {I I' I'':Nat→Prop} {α α' α'':Nat→Option Nat} {H H' H'':aa}
theorem Ev.refl:Ev w I α H w I α H:=⟨.refl _,fun _ h=>h,fun _ _ h=>h,Nat.le_refl _,fun _ _ _=>rfl,fun _ _=>rfl,fun _ h=> .inl h,fun _ h=> .inr h⟩
theorem Ev.trans (h1:Ev w I α H w' I' α' H') (h2:Ev w' I' α' H' w'' I'' α'' H''):Ev w I α H w'' I'' α'' H'' where
 os:=h1.os.trans h2.os
 I_mono b h:=h2.I_mono b (h1.I_mono b h)
 α_mono id b h:=h2.α_mono id b (h1.α_mono id b h)
 size:=Nat.le_trans h1.size h2.size
 frame b hb ho:=by
  rw[h2.frame b (Nat.lt_of_lt_of_le hb h1.size) (fun h=>by
   rcases h1.own b h with h|h
   ·omega
   ·exact ho h),h1.frame b hb ho]
 shape b hb:=by rw[h2.shape b (Nat.lt_of_lt_of_le hb h1.size),h1.shape b hb]
 Inew b h:=by
  rcases h2.Inew b h with h|h|h
  ·exact h1.Inew b h
  ·exact .inr (.inl (Nat.le_trans h1.size h))
  ·exact .inr (h1.own b h)
 own b h:=by
  rcases h2.own b h with h|h
  ·exact .inl (Nat.le_trans h1.size h)
  ·exact h1.own b h
theorem Rel.not_owned (r:Rel G w I α H) {b:Nat} (h:I b):¬bc α H b:=by
 rintro ⟨id,h1,h2⟩
 cases hb:hget H id with
 |none=>exact h1 hb
 |some blk=>
  obtain ⟨b',e,hI,_⟩:=r.live id blk hb
  rw[h2] at e;cases e
  exact hI h
theorem Ev.cell (ev:Ev w I α H w' I' α' H') (r:Rel G w I α H) {b:Nat} (o:Nat) (h:I b):w'.cell? ⟨b,o,none⟩=w.cell? ⟨b,o,none⟩:=by
 have:=ev.frame b (r.imm b h) (r.not_owned h)
 simp[World.cell?,this]
theorem Rep.ev {a:AV} {v:Value} (h:Rep w I α a v) (r:Rel G w I α H) (ev:Ev w I α H w' I' α' H'):Rep w' I' α' a v:=
 h.mono ev.I_mono ev.α_mono (fun _ o hb=>ev.cell r o hb) (fun id b hb=>ev.shape b (r.dom id b hb))
theorem RepL.ev {a:List AV} {v:List Value} (h:RepL w I α a v) (r:Rel G w I α H) (ev:Ev w I α H w' I' α' H'):RepL w' I' α' a v:=
 ⟨h.1,fun i x y h1 h2=>(h.2 i x y h1 h2).ev r ev⟩
theorem BRel.ev {b:Nat} {blk:Blk} (h:BRel w I α b blk) (r:Rel G w I α H) (ev:Ev w I α H w' I' α' H') (hb:w'.heap[b]? =w.heap[b]?):BRel w' I' α' b blk:=by
 cases blk with
 |cells l=>obtain ⟨c,e,h1,h2,h3⟩:=h;exact ⟨c,e,by rw[hb,h1],h2,h3.ev r ev⟩
 |siter s pos=>obtain ⟨bs,h1,h2⟩:=h;exact ⟨bs,by rw[hb,h1],h2⟩
 |mapb cl st es=>obtain ⟨en,h1,h2,h4,h3⟩:=h;exact ⟨en,by rw[hb,h1],h2,h4,fun i x y e1 e2=>⟨(h3 i x y e1 e2).1.ev r ev,(h3 i x y e1 e2).2.ev r ev⟩⟩
 |miter m since seen last=>obtain ⟨mb,h1,h2⟩:=h;exact ⟨mb,ev.α_mono m mb h1,by rw[hb,h2]⟩
theorem eS (r:Rel G w I α H) (ev:Ev w I α H w' I' α' H'):∀g l,G g=some l→I' g∧∀ (j:Nat) x,l[j]? =some x→∃y,w'.cell? ⟨g,j,none⟩=some y∧Rep w' I' α' x y:=by
 intro g l hg
 obtain ⟨h1,h2⟩:=r.glob g l hg
 refine ⟨ev.I_mono g h1,fun j x hx=> ?_⟩
 obtain ⟨y,e,hy⟩:=h2 j x hx
 exact ⟨y,by rw[ev.cell r j h1,e],hy.ev r ev⟩
end
theorem beq_iff {a b:Nat}:Nat.beq a b=true↔a=b:=by simp
theorem beq_false_iff {a b:Nat}:Nat.beq a b=false↔a≠b:=by
 rw[←Bool.not_eq_true,beq_iff]
theorem iS (i:Nat) (b:Option Blk) (t:aa):hget ((i,b)::t) i=b:=by simp[hget]
theorem eT {i j:Nat} (b:Option Blk) (t:aa) (h:i≠j):hget ((i,b)::t) j=hget t j:=by
 have:Nat.beq i j=false:=beq_false_iff.2 h
 simp only[hget,this]
theorem blt_iff {a b:Nat}:Nat.blt a b=true↔a<b:=by simp
theorem lW {a b:Nat} (h:Nat.blt a b=false):¬a<b:=fun hlt=>by
 rw[blt_iff.2 hlt] at h;cases h
theorem nT {a b:Nat} (h:¬a<b):Nat.blt a b=false:=by
 cases hh:Nat.blt a b with
 |false=>rfl
 |true=>exact absurd (blt_iff.1 hh) h
theorem cL {k i:Nat} (d b:Option Blk) (t:aa) (h:k<i):bu ((k,d)::t) i b=(i,b)::(k,d)::t:=by
 simp only[bu,beq_false_iff.2 (Nat.ne_of_lt h),blt_iff.2 h]
theorem fx (i:Nat) (d b:Option Blk) (t:aa):bu ((i,d)::t) i b=(i,b)::t:=by
 simp[bu]
theorem cj {k i:Nat} (d b:Option Blk) (t:aa) (h:i<k):bu ((k,d)::t) i b=(k,d)::bu t i b:=by
 simp only[bu,beq_false_iff.2 (Nat.ne_of_gt h),nT (Nat.not_lt.2 (Nat.le_of_lt h))]
theorem nU (H:aa) (id:Nat) (b:Option Blk):hget (bu H id b) id=b:=by
 induction H with
 |nil=>exact iS id b []
 |cons p t ih=>
  obtain ⟨i,c⟩:=p
  rcases Nat.lt_trichotomy i id with h|h|h
  ·rw[cL _ _ _ h];exact iS _ _ _
  ·subst h;rw[fx];exact iS _ _ _
  ·rw[cj _ _ _ h,eT _ _ (by omega),ih]
theorem lX (H:aa) {id id':Nat} (b:Option Blk) (h:id'≠id):hget (bu H id b) id'=hget H id':=by
 induction H with
 |nil=>exact eT _ _ (Ne.symm h)
 | cons p t ih=>
  obtain ⟨i,c⟩:=p
  rcases Nat.lt_trichotomy i id with h1|h1|h1
  ·rw[cL _ _ _ h1,eT _ _ (Ne.symm h)]
  ·subst h1;rw[fx,eT _ _ (Ne.symm h),eT _ _ (Ne.symm h)]
  ·rw[cj _ _ _ h1]
   by_cases hi:i=id'
   ·subst hi;rw[iS,iS]
   ·rw[eT _ _ hi,eT _ _ hi,ih]
theorem zC (H:aa) {i j:Nat} (b c:Option Blk) (h:i≠j):bu (bu H i b) j c=bu (bu H j c) i b:=by
 induction H with
 | nil=>
  rcases Nat.lt_or_gt_of_ne h with h1|h1
  ·show bu [(i,b)] j c=bu [(j,c)] i b
   rw[cL _ _ _ h1,cj _ _ _ h1];rfl
  ·show bu [(i,b)] j c=bu [(j,c)] i b
   rw[cj _ _ _ h1,cL _ _ _ h1];rfl
 | cons p t ih=>
  obtain ⟨k,d⟩:=p
  rcases Nat.lt_trichotomy k i with h1|h1|h1<;>rcases Nat.lt_trichotomy k j with h2|h2|h2
  ·rw[cL _ _ _ h1,cL _ _ _ h2]
   rcases Nat.lt_or_gt_of_ne h with h3|h3
   ·rw[cL _ _ _ h3,cj _ _ _ h3,cL _ _ _ h1]
   ·rw[cj _ _ _ h3,cL _ _ _ h3,cL _ _ _ h2]
  ·subst h2
   rw[cL _ _ _ h1,fx,cj _ _ _ h1,fx,cL _ _ _ h1]
  ·rw[cL _ _ _ h1,cj _ _ _ h2,cj _ _ _ (by omega),cj _ _ _ h2,cL _ _ _ h1]
  ·subst h1
   rw[fx,cL _ _ _ h2,cL _ _ _ h2,cj _ _ _ h2,fx]
  ·omega
  ·subst h1
   rw[fx,cj _ _ _ h2,cj _ _ _ h2,fx]
  ·rw[cj _ _ _ h1,cL _ _ _ h2,cL _ _ _ h2,cj _ _ _ (by omega),cj _ _ _ h1]
  ·subst h2
   rw[cj _ _ _ h1,fx,fx,cj _ _ _ h1]
  ·rw[cj _ _ _ h1,cj _ _ _ h2,cj _ _ _ h2,cj _ _ _ h1,ih]
theorem lY (H:aa) (id:Nat) (b:Blk):hget (aP H id b) id=some b:=nU H id (some b)
theorem bZ (H:aa) {id id':Nat} (b:Blk) (h:id'≠id):hget (aP H id b) id'=hget H id':=lX H (some b) h
theorem dX (H:aa) (id:Nat):hget (aK H id) id=none:=nU H id none
theorem dt (H:aa) {id id':Nat} (h:id'≠id):hget (aK H id) id'=hget H id':=lX H none h
theorem uu (n:Nat) (H:aa) (id:Nat):hget (dW n H) id=if id<n then hget H id else none:=by
 induction H with
 |nil=>simp[dW,hget]
 | cons p t ih=>
  obtain ⟨i,c⟩:=p
  simp only[dW]
  split
  ·rename_i h1
   have hi:i<n:=by simpa using h1
   by_cases e:i=id
   ·subst e;rw[iS,iS,if_pos hi]
   ·rw[eT _ _ e,eT _ _ e,ih]
  ·rename_i h1
   have hi:¬i<n:=by
    have:¬ (Nat.blt i n=true):=by rw[h1];simp
    simpa using this
   rw[ih]
   by_cases e:i=id
   ·subst e;rw[if_neg hi,if_neg hi]
   ·rw[eT _ _ e]
end Go.Proofs.Abs
/- What an effect of the short heap means for the model's memory. -/
namespace Go.Proofs.Abs
open Go
def cY (P:Program) (Q:Value→World→Prop):Result Next→Prop
 | .ok (.value v) w=>Q v w
 | .ok .skip w=>Q undef w
 | .ok (.enter f args) w=>Calls P f args w fun e w'=>∃v,e= .returned v∧Q v w'
 |_=>False
theorem uv {P:Program} {o:Oper} {a:Act} {w:World} {R:Value→World→Prop} {next:Act→World→Prop} {Q:Exit→Act→World→Prop}
    (h:cY P R ((execOp a.eval o).run P w)) (hn:∀v w',R v w'→next (a.put o.dst v) w'):o.wp P a w next Q:=by
  unfold Oper.wp
  generalize (execOp a.eval o).run P w=r at*
  cases r with
  |halt x w'=>exact h.elim
  | ok n w'=>
    cases n<;>first
      |exact hn _ _ h
      |exact h.elim
      | (refine Calls.mono h ?_
         rintro e w'' ⟨v,rfl,hv⟩
         exact hn _ _ hv)
structure Post (G:ax) (w:World) (I:Nat→Prop) (α:Nat→Option Nat) (H:aa) (rid nx:Nat) (av:AV) (H':aa) (nx':Nat) (v:Value) (w':World):Prop where
 ex:∃I' α',Ev w I α H w' I' α' H'∧Rel G w' I' α' H'∧Rep w' I' α' av v∧(∀id,α' id≠none→α id≠none∨id=rid∨(nx≤id∧id<nx'))
 le:nx≤nx'
def aV (P:Program) (G:ax) (call:aB):Prop:=
 ∀ f args rid H nx v H' nx' ft,call f args rid H nx=some (v,H',nx',ft)→
  ∀w I α (vs:Array Value),Rel G w I α H→RepL w I α args vs.toList→α rid=none→rid<nx→(∀id,nx≤id→α id=none)→
   cY P (Post G w I α H rid nx v H' nx') ((callFunc f vs).run P w)
structure Ctx (P:Program) (G:ax) (call:aB) (w:World) (I:Nat→Prop) (α:Nat→Option Nat) (H:aa) (rid nx:Nat):Prop where
 rel:Rel G w I α H
 hrid:α rid=none
 lt:rid<nx
 fresh:∀id,nx≤id→α id=none
 call:aV P G call
def b7 (P:Program) (G:ax) (call:aB) (w:World) (I:Nat→Prop) (α:Nat→Option Nat) (H:aa) (rid nx:Nat) (m:Result Next) (e:Eff):Prop:=
 ∀d v H' nx' ft,aG call rid d e H nx=some (v,H',nx',ft)→cY P (Post G w I α H rid nx v H' nx') m
def upd (α:Nat→Option Nat) (id b:Nat):Nat→Option Nat:=fun i=>if i=id then some b else α i
theorem bV (α:Nat→Option Nat) (id b:Nat):upd α id b id=some b:=by simp[upd]
theorem bq (α:Nat→Option Nat) {id i:Nat} (b:Nat) (h:i≠id):upd α id b i=α i:=by simp[upd,h]
section
variable {P:Program} {G:ax} {call:aB} {w:World} {I:Nat→Prop} {α:Nat→Option Nat} {H:aa} {rid nx:Nat}
theorem uw {v:AV} {v':Value} (r:Rel G w I α H) (h:Rep w I α v v'):Post G w I α H rid nx v H nx v' w:=
 ⟨⟨I,α,.refl,r,h,fun _ h=> .inl h⟩,Nat.le_refl _⟩
theorem dI {m:Result Next} {v:AV} {v':Value} (c:Ctx P G call w I α H rid nx) (hm:m= .ok (.value v') w) (h:Rep w I α v v'):
  b7 P G call w I α H rid nx m (.val v):=by
 intro d u H' nx' ft he
 cases d<;>(simp only[aG,Option.some.injEq,Prod.mk.injEq] at he;obtain ⟨rfl,rfl,rfl,rfl⟩:=he;rw[hm];exact uw c.rel h)
theorem ez {m:Result Next} {id:Nat} {k:Blk→Option Eff} (c:Ctx P G call w I α H rid nx)
  (h:∀blk b e,hget H id=some blk→α id=some b→BRel w I α b blk→k blk=some e→b7 P G call w I α H rid nx m e):
  b7 P G call w I α H rid nx m (.read id k):=by
 intro d u H' nx' ft he
 cases d with
 |zero=>simp[aG] at he
 | succ d=>
  simp only[aG] at he
  split at he
  ·rename_i blk hb
   split at he
   ·rename_i e hk
    split at he
    ·rename_i v h' n' f' hr
     simp only[Option.some.injEq,Prod.mk.injEq] at he
     obtain ⟨rfl,rfl,rfl,rfl⟩:=he
     obtain ⟨b,hα,_,hB⟩:=c.rel.live id blk hb
     exact h blk b e hb hα hB hk d _ _ _ _ hr
    ·simp at he
   ·simp at he
  ·simp at he
theorem qX {m:Result Next} {f:FuncId} {args:List AV} {vs:Array Value} (c:Ctx P G call w I α H rid nx)
  (hm:m=(callFunc f vs).run P w) (h:RepL w I α args vs.toList):b7 P G call w I α H rid nx m (.call f args):=by
 intro d u H' nx' ft he
 have:call f args rid H nx=some (u,H',nx',ft):=by cases d<;>simpa [aG] using he
 rw[hm]
 exact c.call f args rid H nx u H' nx' ft this w I α vs c.rel h c.hrid c.lt c.fresh
theorem nV {w':World} (h:w'.heap=w.heap) (hos:SameOs w w':=by first|assumption|exact ⟨rfl,rfl,rfl⟩):Ev w I α H w' I α H:=
 ⟨hos,fun _ h=>h,fun _ _ h=>h,by rw[h];exact Nat.le_refl _,fun _ _ _=>by rw[h],fun _ _=>by simp[World.shape?,h],fun _ h=> .inl h,fun _ h=> .inr h⟩
theorem zD {w':World} (h:w'.heap=w.heap) (r:Rel G w I α H) (hos:SameOs w w':=by first|assumption|exact ⟨rfl,rfl,rfl⟩):Rel G w' I α H where
 live id blk hb:=by
  obtain ⟨b,h1,h2,h3⟩:=r.live id blk hb
  exact ⟨b,h1,h2,h3.ev r (nV h) (by rw[h])⟩
 inj:=r.inj
 imm b hb:=by rw[h];exact r.imm b hb
 dom id b hb:=by rw[h];exact r.dom id b hb
 glob:=eS r (nV h)
theorem nW {w':World} {o:Obj} (h:w'.heap=w.heap.push o) {b:Nat} (hb:b<w.heap.size):w'.heap[b]? =w.heap[b]? :=by
 rw[h,Array.getElem?_push];simp[Nat.ne_of_lt hb]
theorem ux {w':World} {o:Obj} (h:w'.heap=w.heap.push o):w'.heap[w.heap.size]? =some o:=by
 rw[h];simp
theorem fy {w':World} {o:Obj} (h:w'.heap=w.heap.push o) (I':Nat→Prop) (hI:∀b,I b→I' b) (hN:∀b,I' b→I b∨b=w.heap.size) (hos:SameOs w w':=by first|assumption|exact ⟨rfl,rfl,rfl⟩):Ev w I α H w' I' α H:=
 ⟨hos,hI,fun _ _ h=>h,by rw[h];simp,fun b hb _=>nW h hb,fun b hb=>by simp[World.shape?,nW h hb],fun b hb=>by
  rcases hN b hb with h'|h'
  ·exact .inl h'
  ·exact .inr (.inl (Nat.le_of_eq h'.symm)),fun b hb=> .inr hb⟩
theorem uy {w':World} {o:Obj} (h:w'.heap=w.heap.push o) (I':Nat→Prop) (hI:∀b,I b→I' b) (hN:∀b,I' b→I b∨b=w.heap.size) (r:Rel G w I α H) (hos:SameOs w w':=by first|assumption|exact ⟨rfl,rfl,rfl⟩):Rel G w' I' α H where
 live id blk hb:=by
  obtain ⟨b,h1,h2,h3⟩:=r.live id blk hb
  have hlt:=r.dom id b h1
  refine ⟨b,h1,fun hb'=> ?_,h3.ev r (fy h I' hI hN) (nW h hlt)⟩
  rcases hN b hb' with h'|h'
  ·exact h2 h'
  ·omega
 inj:=r.inj
 imm b hb:=by
  rw[h];simp
  rcases hN b hb with h'|h'
  ·have:=r.imm b h';omega
  ·omega
 dom id b hb:=by rw[h];simp;have:=r.dom id b hb;omega
 glob:=eS r (fy h I' hI hN)
theorem qY {w':World} {o:Obj} {blk:Blk} {v:AV} {v':Value} (c:Ctx P G call w I α H rid nx) (h:w'.heap=w.heap.push o)
  (hB:∀α',(∀id b,α id=some b→α' id=some b)→Rel G w' I α' H→BRel w' I α' w.heap.size blk)
  (hv:∀α',α' rid=some w.heap.size→Rep w' I α' v v') (hos:SameOs w w':=by first|assumption|exact ⟨rfl,rfl,rfl⟩):Post G w I α H rid nx v (aP H rid blk) nx v' w':=by
 have hm:∀id b,α id=some b→upd α rid w.heap.size id=some b:=fun id b hb=>by
  rw[bq];exact hb
  intro e;subst e;rw[c.hrid] at hb;cases hb
 have hrid:hget H rid=none:=by
  cases hh:hget H rid with
  |none=>rfl
  |some blk=>obtain ⟨b,h1,_⟩:=c.rel.live rid blk hh;rw[c.hrid] at h1;cases h1
 have ev0:Ev w I α H w' I (upd α rid w.heap.size) H:=by
  have:=fy (α:=α) (H:=H) h I (fun _ h=>h) (fun _ h=> .inl h)
  refine ⟨this.os,this.I_mono,hm,this.size,this.frame,this.shape,this.Inew,fun b hb=> ?_⟩
  obtain ⟨id,h1,h2⟩:=hb
  by_cases e:id=rid
  ·subst e;rw[hrid] at h1;exact absurd rfl h1
  ·rw[bq _ _ e] at h2;exact .inr ⟨id,h1,h2⟩
 have ev:Ev w I α H w' I (upd α rid w.heap.size) (aP H rid blk):=by
  refine ⟨ev0.os,ev0.I_mono,ev0.α_mono,ev0.size,ev0.frame,ev0.shape,ev0.Inew,fun b hb=> ?_⟩
  obtain ⟨id,h1,h2⟩:=hb
  by_cases e:id=rid
  ·subst e;rw[bV] at h2;cases h2;exact .inl (Nat.le_refl _)
  ·rw[bZ _ _ e] at h1;rw[bq _ _ e] at h2;exact .inr ⟨id,h1,h2⟩
 have rel0:Rel G w' I (upd α rid w.heap.size) H:=
  {live:=fun id blk hb=>by
    obtain ⟨b,h1,h2,h3⟩:=c.rel.live id blk hb
    exact ⟨b,hm _ _ h1,h2,h3.ev c.rel ev0 (nW h (c.rel.dom id b h1))⟩
   inj:=fun id id' b h1 h2 h3 h4=>by
    have e1:id≠rid:=fun e=>by subst e;exact h1 hrid
    have e2:id'≠rid:=fun e=>by subst e;exact h2 hrid
    rw[bq _ _ e1] at h3;rw[bq _ _ e2] at h4
    exact c.rel.inj id id' b h1 h2 h3 h4
   imm:=fun b hb=>by rw[h];simp;have:=c.rel.imm b hb;omega
   dom:=fun id b hb=>by
    rw[h];simp
    by_cases e:id=rid
    ·subst e;rw[bV] at hb;cases hb;omega
    ·rw[bq _ _ e] at hb;have:=c.rel.dom id b hb;omega
   glob:=eS c.rel ev0}
 have rel:Rel G w' I (upd α rid w.heap.size) (aP H rid blk):=
  {live:=fun id blk' hb=>by
    by_cases e:id=rid
    ·subst e;rw[lY] at hb;cases hb
     exact ⟨_,bV _ _ _,fun hI=>by have:=c.rel.imm _ hI;omega,hB _ hm rel0⟩
    ·rw[bZ _ _ e] at hb;exact rel0.live id blk' hb
   inj:=fun id id' b h1 h2 h3 h4=>by
    by_cases e1:id=rid
    ·subst e1;rw[bV] at h3;cases h3
     by_cases e2:id'=id
     ·exact e2.symm
     ·rw[bq _ _ e2] at h4;have:=c.rel.dom _ _ h4;omega
    ·rw[bq _ _ e1] at h3
     by_cases e2:id'=rid
     ·subst e2;rw[bV] at h4;cases h4;have:=c.rel.dom _ _ h3;omega
     ·rw[bq _ _ e2] at h4
      rw[bZ _ _ e1] at h1;rw[bZ _ _ e2] at h2
      exact c.rel.inj id id' b h1 h2 h3 h4
   imm:=rel0.imm
   dom:=rel0.dom
   glob:=rel0.glob}
 refine ⟨⟨I,upd α rid w.heap.size,ev,rel,hv _ (bV _ _ _),fun id hid=> ?_⟩,Nat.le_refl _⟩
 by_cases e:id=rid
 ·exact .inr (.inl e)
 ·rw[bq _ _ e] at hid;exact .inl hid
theorem lZ {m:Result Next} {w':World} {o:Obj} {blk:Blk} {k:Nat→AV} {v':Value} (c:Ctx P G call w I α H rid nx) (hm:m= .ok (.value v') w') (h:w'.heap=w.heap.push o)
  (hB:∀α',(∀id b,α id=some b→α' id=some b)→Rel G w' I α' H→BRel w' I α' w.heap.size blk)
  (hv:∀α',α' rid=some w.heap.size→Rep w' I α' (k rid) v') (hos:SameOs w w':=by first|assumption|exact ⟨rfl,rfl,rfl⟩):b7 P G call w I α H rid nx m (.new blk k):=by
 intro d u H' nx' ft he
 have:u=k rid∧H'=aP H rid blk∧nx'=nx:=by cases d<;>(simp only[aG,Option.some.injEq,Prod.mk.injEq] at he;obtain ⟨rfl,rfl,rfl,_⟩:=he;exact ⟨rfl,rfl,rfl⟩)
 obtain ⟨rfl,rfl,rfl⟩:=this
 rw[hm]
 exact qY c h hB hv
theorem qZ {m:Result Next} {w':World} {o:Obj} {v:AV} {v':Value} (c:Ctx P G call w I α H rid nx) (hm:m= .ok (.value v') w') (h:w'.heap=w.heap.push o)
  (hv:∀I',(∀b,I b→I' b)→I' w.heap.size→Rel G w' I' α H→Ev w I α H w' I' α H→Rep w' I' α v v') (hos:SameOs w w':=by first|assumption|exact ⟨rfl,rfl,rfl⟩):b7 P G call w I α H rid nx m (.val v):=by
 intro d u H' nx' ft he
 have:u=v∧H'=H∧nx'=nx:=by cases d<;>(simp only[aG,Option.some.injEq,Prod.mk.injEq] at he;obtain ⟨rfl,rfl,rfl,_⟩:=he;exact ⟨rfl,rfl,rfl⟩)
 obtain ⟨rfl,rfl,rfl⟩:=this
 rw[hm]
 have hI:∀b,I b→(fun b=>I b∨b=w.heap.size) b:=fun b h=> .inl h
 exact ⟨⟨fun b=>I b∨b=w.heap.size,α,fy h _ hI (fun _ h=>h),uy h _ hI (fun _ h=>h) c.rel,hv _ hI (.inr rfl) (uy h _ hI (fun _ h=>h) c.rel) (fy h _ hI (fun _ h=>h)),fun _ h=> .inl h⟩,Nat.le_refl _⟩
theorem uz {w':World} {id b:Nat} {blk:Blk} (c:Ctx P G call w I α H rid nx) (hg:hget H id=some blk) (hα:α id=some b)
    (hs:w'.heap.size=w.heap.size) (ho:∀k,k≠b→w'.heap[k]? =w.heap[k]?) (hsh:w'.shape? b=w.shape? b) (hos:SameOs w w':=by first|assumption|exact ⟨rfl,rfl,rfl⟩):
    Rel G w' I α (aK H id)∧Ev w I α H w' I α (aK H id):=by
  have evd:Ev w I α H w' I α (aK H id):=
    ⟨hos,fun _ h=>h,fun _ _ h=>h,by omega,fun k _ hk=>ho k (fun e=>hk ⟨id,by rw[hg];simp,e▸hα⟩),fun k _=>by
      by_cases e:k=b
      · rw[e,hsh]
      · simp[World.shape?,ho k e],fun _ h=> .inl h,fun k hk=>by
      obtain ⟨i,h1,h2⟩:=hk
      by_cases e:i=id
      · subst e;rw[dX] at h1;exact absurd rfl h1
      · rw[dt _ e] at h1;exact .inr ⟨i,h1,h2⟩⟩
  have hother:∀i blk0,i≠id→hget H i=some blk0→∃k,α i=some k∧¬I k∧BRel w' I α k blk0∧k≠b:=fun i blk0 hne hi=>by
    obtain ⟨k,h1,h2,h3⟩:=c.rel.live i blk0 hi
    have hkb:k≠b:=fun e=>hne (c.rel.inj i id b (by rw[hi];simp) (by rw[hg];simp) (e▸h1) hα)
    exact ⟨k,h1,h2,h3.ev c.rel evd (ho k hkb),hkb⟩
  exact ⟨{ live :=fun i blk0 hi=>by
            by_cases e:i=id
            · subst e;rw[dX] at hi;cases hi
            · rw[dt _ e] at hi
              obtain ⟨k,h1,h2,h3,_⟩:=hother i blk0 e hi
              exact ⟨k,h1,h2,h3⟩
           inj:=fun i j k h1 h2 h3 h4=>by
            by_cases e:i=id
            · subst e;rw[dX] at h1;exact absurd rfl h1
            · by_cases e':j=id
              · subst e';rw[dX] at h2;exact absurd rfl h2
              · rw[dt _ e] at h1;rw[dt _ e'] at h2
                exact c.rel.inj i j k h1 h2 h3 h4
           imm:=fun k hk=>by rw[hs];exact c.rel.imm k hk
           dom:=fun i k hk=>by rw[hs];exact c.rel.dom i k hk
           glob:=eS c.rel evd},evd⟩
theorem uA {w':World} {id b:Nat} {blk blk':Blk} (c:Ctx P G call w I α H rid nx) (hg:hget H id=some blk) (hα:α id=some b)
  (hs:w'.heap.size=w.heap.size) (ho:∀k,k≠b→w'.heap[k]? =w.heap[k]?) (hsh:w'.shape? b=w.shape? b)
  (hB:Rel G w' I α (aK H id)→Ev w I α H w' I α (aK H id)→BRel w' I α b blk') (hos:SameOs w w':=by first|assumption|exact ⟨rfl,rfl,rfl⟩):Ev w I α H w' I α (aP H id blk')∧Rel G w' I α (aP H id blk')∧Rel G w' I α (aK H id)∧Ev w I α H w' I α (aK H id):=by
 obtain ⟨reld,evd⟩:=uz c hg hα hs ho hsh
 have hnI:¬I b:=by
  obtain ⟨b',h1,h2,_⟩:=c.rel.live id blk hg
  rw[hα] at h1;cases h1;exact h2
 have rel:Rel G w' I α (aP H id blk'):=
  {live:=fun i blk0 hi=>by
    by_cases e:i=id
    ·subst e;rw[lY] at hi;cases hi;exact ⟨b,hα,hnI,hB reld evd⟩
    ·rw[bZ _ _ e] at hi
     exact reld.live i blk0 (by rw[dt _ e];exact hi)
   inj:=fun i j k h1 h2 h3 h4=>by
    refine c.rel.inj i j k ?_ ?_ h3 h4
    ·by_cases e:i=id
     ·subst e;rw[hg];simp
     ·rw[bZ _ _ e] at h1;exact h1
    ·by_cases e:j=id
     ·subst e;rw[hg];simp
     ·rw[bZ _ _ e] at h2;exact h2
   imm:=reld.imm
   dom:=reld.dom
   glob:=reld.glob}
 have ev:Ev w I α H w' I α (aP H id blk'):=
  ⟨evd.os,evd.I_mono,evd.α_mono,evd.size,evd.frame,evd.shape,evd.Inew,fun k hk=>by
   obtain ⟨i,h1,h2⟩:=hk
   by_cases e:i=id
   ·subst e;exact .inr ⟨i,by rw[hg];simp,h2⟩
   ·rw[bZ _ _ e] at h1;exact .inr ⟨i,h1,h2⟩⟩
 exact ⟨ev,rel,reld,evd⟩
theorem BRel.monoI {I':Nat→Prop} {k:Nat} {bk:Blk} (h:BRel w I α k bk) (hI:∀b,I b→I' b):BRel w I' α k bk:=by
 have mono:∀ {a:AV} {u:Value},Rep w I α a u→Rep w I' α a u:=fun h=>h.mono hI (fun _ _ h=>h) (fun _ _ _=>rfl) (fun _ _ _=>rfl)
 cases bk with
 |cells l=>obtain ⟨cc,e,h1,h2,h3⟩:=h;exact ⟨cc,e,h1,h2,h3.1,fun i x y e1 e2=>mono (h3.2 i x y e1 e2)⟩
 |siter s p=>exact h
 |mapb cl st es=>obtain ⟨en,h1,h2,h4,h3⟩:=h;exact ⟨en,h1,h2,h4,fun i x y e1 e2=>⟨mono (h3 i x y e1 e2).1,mono (h3 i x y e1 e2).2⟩⟩
 |miter m since seen last=>exact h
theorem zE {w':World} {id b:Nat} {blk:Blk} {v:AV} {v':Value} (c:Ctx P G call w I α H rid nx) (hg:hget H id=some blk) (hα:α id=some b)
  (hs:w'.heap.size=w.heap.size) (ho:∀k,k≠b→w'.heap[k]? =w.heap[k]?) (hsh:w'.shape? b=w.shape? b)
  (hv:∀I',(∀k,I k→I' k)→I' b→Ev w I α H w' I' α (aK H id)→Rep w' I' α v v') (hos:SameOs w w':=by first|assumption|exact ⟨rfl,rfl,rfl⟩):Post G w I α H rid nx v (aK H id) nx v' w':=by
 obtain ⟨reld,evd⟩:=uz c hg hα hs ho hsh
 have hI:∀k,I k→(fun k=>I k∨k=b) k:=fun k h=> .inl h
 have ev:Ev w I α H w' (fun k=>I k∨k=b) α (aK H id):=
  ⟨evd.os,hI,evd.α_mono,evd.size,evd.frame,evd.shape,fun k hk=>by
   rcases hk with hk|rfl
   ·exact .inl hk
   ·exact .inr (.inr ⟨id,by rw[hg];simp,hα⟩),evd.own⟩
 have rel:Rel G w' (fun k=>I k∨k=b) α (aK H id):=
  {live:=fun i blk0 hi=>by
    have hid:i≠id:=fun e=>by subst e;rw[dX] at hi;cases hi
    obtain ⟨k,h1,h2,h3⟩:=reld.live i blk0 hi
    refine ⟨k,h1,fun hk=> ?_,h3.monoI hI⟩
    rcases hk with hk|rfl
    ·exact h2 hk
    ·rw[dt _ hid] at hi
     exact hid (c.rel.inj i id k (by rw[hi];simp) (by rw[hg];simp) h1 hα)
   inj:=reld.inj
   imm:=fun k hk=>by
    rcases hk with hk|rfl
    ·exact reld.imm k hk
    ·exact reld.dom id k hα
   dom:=reld.dom
   glob:=fun g l hg'=>by
    obtain ⟨h1,h2⟩:=reld.glob g l hg'
    exact ⟨.inl h1,fun j x hx=>let ⟨y,e,hy⟩:=h2 j x hx;⟨y,e,hy.mono hI (fun _ _ h=>h) (fun _ _ _=>rfl) (fun _ _ _=>rfl)⟩⟩}
 exact ⟨⟨_,α,ev,rel,hv _ hI (.inr rfl) ev,fun _ h=> .inl h⟩,Nat.le_refl _⟩
theorem zF {m:Result Next} {id:Nat} {k:Blk→Option AV} (c:Ctx P G call w I α H rid nx)
  (h:∀blk b v,hget H id=some blk→α id=some b→BRel w I α b blk→k blk=some v→cY P (Post G w I α H rid nx v (aK H id) nx) m):
  b7 P G call w I α H rid nx m (.shut id k):=by
 intro d u H' nx' ft he
 have:∃blk,hget H id=some blk∧k blk=some u∧H'=aK H id∧nx'=nx:=by
  cases d<;>
  ·simp only[aG] at he
   split at he
   ·rename_i blk hb
    split at he
    ·rename_i v hk
     simp only[Option.some.injEq,Prod.mk.injEq] at he
     obtain ⟨rfl,rfl,rfl,_⟩:=he
     exact ⟨blk,hb,hk,rfl,rfl⟩
    ·simp at he
   ·simp at he
 obtain ⟨blk,hb,hk,rfl,rfl⟩:=this
 obtain ⟨b,hα,_,hB⟩:=c.rel.live id blk hb
 exact h blk b u hb hα hB hk
theorem iT {w':World} {id b:Nat} {blk blk':Blk} {v:AV} {v':Value} (c:Ctx P G call w I α H rid nx) (hg:hget H id=some blk) (hα:α id=some b)
  (hs:w'.heap.size=w.heap.size) (ho:∀k,k≠b→w'.heap[k]? =w.heap[k]?) (hsh:w'.shape? b=w.shape? b)
  (hB:Rel G w' I α (aK H id)→Ev w I α H w' I α (aK H id)→BRel w' I α b blk') (hv:Rel G w' I α (aK H id)→Ev w I α H w' I α (aK H id)→Rep w' I α v v') (hos:SameOs w w':=by first|assumption|exact ⟨rfl,rfl,rfl⟩):Post G w I α H rid nx v (aP H id blk') nx v' w':=
 let ⟨ev,rel,reld,evd⟩:=uA c hg hα hs ho hsh hB
 ⟨⟨I,α,ev,rel,hv reld evd,fun _ h=> .inl h⟩,Nat.le_refl _⟩
theorem jS {m:Result Next} {id:Nat} {k:Blk→Option (Blk × AV)} (c:Ctx P G call w I α H rid nx)
  (h:∀blk b blk' v,hget H id=some blk→α id=some b→BRel w I α b blk→k blk=some (blk',v)→cY P (Post G w I α H rid nx v (aP H id blk') nx) m):
  b7 P G call w I α H rid nx m (.upd id k):=by
 intro d u H' nx' ft he
 have:∃blk blk',hget H id=some blk∧k blk=some (blk',u)∧H'=aP H id blk'∧nx'=nx:=by
  cases d<;>
  ·simp only[aG] at he
   split at he
   ·rename_i blk hb
    split at he
    ·rename_i blk' v hk
     simp only[Option.some.injEq,Prod.mk.injEq] at he
     obtain ⟨rfl,rfl,rfl,_⟩:=he
     exact ⟨blk,blk',hb,hk,rfl,rfl⟩
    ·simp at he
   ·simp at he
 obtain ⟨blk,blk',hb,hk,rfl,rfl⟩:=this
 obtain ⟨b,hα,_,hB⟩:=c.rel.live id blk hb
 exact h blk b blk' u hb hα hB hk
theorem zG {m:Result Next} {id:Nat} {k:Blk→Option (Blk × (Nat→AV))} (c:Ctx P G call w I α H rid nx)
  (h:∀blk b blk' v,hget H id=some blk→α id=some b→BRel w I α b blk→k blk=some (blk',v)→cY P (Post G w I α H rid nx (v rid) (aP (aK H id) rid blk') nx) m):
  b7 P G call w I α H rid nx m (.repl id k):=by
 intro d u H' nx' ft he
 have:∃blk blk' v,hget H id=some blk∧k blk=some (blk',v)∧u=v rid∧H'=aP (aK H id) rid blk'∧nx'=nx:=by
  cases d<;>
  ·simp only[aG] at he
   split at he
   ·rename_i blk hb
    split at he
    ·rename_i blk' v hk
     simp only[Option.some.injEq,Prod.mk.injEq] at he
     obtain ⟨rfl,rfl,rfl,_⟩:=he
     exact ⟨blk,blk',v,hb,hk,rfl,rfl,rfl⟩
    ·simp at he
   ·simp at he
 obtain ⟨blk,blk',v,hb,hk,rfl,rfl,rfl⟩:=this
 obtain ⟨b,hα,_,hB⟩:=c.rel.live id blk hb
 exact h blk b blk' v hb hα hB hk
theorem nX (r:Rel G w I α H) (id:Nat):Rel G w I α (aK H id) where
 live i blk hi:=by
  by_cases e:i=id
  ·subst e;rw[dX] at hi;cases hi
  ·rw[dt _ e] at hi;exact r.live i blk hi
 inj i j k h1 h2 h3 h4:=by
  by_cases e:i=id
  ·subst e;rw[dX] at h1;exact absurd rfl h1
  ·by_cases e':j=id
   ·subst e';rw[dX] at h2;exact absurd rfl h2
   ·rw[dt _ e] at h1;rw[dt _ e'] at h2
    exact r.inj i j k h1 h2 h3 h4
 imm:=r.imm
 dom:=r.dom
 glob:=r.glob
theorem zH (id:Nat):Ev w I α H w I α (aK H id):=
 ⟨.refl _,fun _ h=>h,fun _ _ h=>h,Nat.le_refl _,fun _ _ _=>rfl,fun _ _=>rfl,fun _ h=> .inl h,fun b hb=>by
  obtain ⟨i,h1,h2⟩:=hb
  by_cases e:i=id
  ·subst e;rw[dX] at h1;exact absurd rfl h1
  ·rw[dt _ e] at h1;exact .inr ⟨i,h1,h2⟩⟩
end
end Go.Proofs.Abs
/- Small laws: lists, rows of cells, types; each operation that looks at values alone. -/
namespace Go.Proofs.Abs
open Go
theorem dJ {α:Type}:∀ (l:List α) (i:Nat),bF l i=l[i]?
 |[],_=>by simp[bF]
 |_::_,0=>rfl
 |_::t,i+1=>by simpa [bF] using dJ t i
theorem ap {α:Type}:∀ (l:List α),ac l=l.length
 |[]=>rfl
 |_::t=>by simp[ac,ap t]
theorem uB {α:Type}:∀ (l:List α) (i:Nat) (x:α),lx l i x=l.set i x
 |[],_,_=>by simp[lx]
 |_::_,0,_=>rfl
 |a::t,i+1,x=>by simpa [lx] using uB t i x
theorem gM:∀ (l:List AV) (o n:Nat) (c:List AV),chunk l o n=some c→c=(l.drop o).take n∧c.length=n∧(n=0∨o+n≤l.length)
 |l,o,0,c,h=>by cases l<;>simp[chunk] at h<;>subst h<;>simp
 |[],_,n+1,_,h=>by simp[chunk] at h
 |a::t,0,n+1,c,h=>by
  simp only[chunk,Option.map_eq_some_iff] at h
  obtain ⟨c',h1,rfl⟩:=h
  obtain ⟨e1,e2,e3⟩:=gM t 0 n c' h1
  refine ⟨by simp at e1⊢;exact e1,by simp[e2],.inr (by simp;omega)⟩
 |a::t,o+1,n+1,c,h=>by
  simp only[chunk] at h
  obtain ⟨e1,e2,e3⟩:=gM t o (n+1) c h
  exact ⟨by simpa using e1,e2,.inr (by simp;omega)⟩
theorem eU:∀ (l:List AV) (o:Nat) (vs l':List AV),splice l o vs=some l'→l'=l.take o++vs++l.drop (o+vs.length)∧(vs=[]∨o+vs.length≤l.length)
 |l,o,[],l',h=>by cases l<;>simp[splice] at h<;>subst h<;>simp
 |[],_,_::_,_,h=>by simp[splice] at h
 |a::t,0,v::vs,l',h=>by
  simp only[splice,Option.map_eq_some_iff] at h
  obtain ⟨c,h1,rfl⟩:=h
  obtain ⟨e1,e2⟩:=eU t 0 vs c h1
  refine ⟨by simp at e1⊢;exact e1,.inr ?_⟩
  rcases e2 with e2|e2
  ·subst e2;simp
  ·simp at e2⊢;omega
 |a::t,o+1,v::vs,l',h=>by
  simp only[splice,Option.map_eq_some_iff] at h
  obtain ⟨c,h1,rfl⟩:=h
  obtain ⟨e1,e2⟩:=eU t o (v::vs) c h1
  refine ⟨by rw[e1];simp[show o+1+(vs.length+1)=o+(vs.length+1)+1 by omega],.inr ?_⟩
  rcases e2 with e2|e2
  ·cases e2
  ·simp at e2⊢;omega
theorem zJ {l:List AV} {o:Nat} {vs l':List AV} (h:splice l o vs=some l'):l'.length=l.length:=by
 obtain ⟨e1,e2⟩:=eU l o vs l' h
 rw[e1]
 rcases e2 with e2|e2
 ·subst e2;simp
 ·simp;omega
section
variable {P:Program} {w:World} {I:Nat→Prop} {α:Nat→Option Nat}
theorem uC {v:Value} {a:AV} (h:nF v=some a):Rep w I α a v:=by
 unfold nF at h
 split at h<;>simp at h<;>subst h
 ·exact .bool _
 ·exact .int _ _
 ·exact .str _ _ rfl
 ·exact .nilp
 ·exact .nilsl
 ·exact .nilmap
 ·exact .nilFunc
 ·exact .nilIface
theorem uD:∀ {vs:List Value} {l:List AV},ly vs=some l→RepL w I α l vs
 |[],l,h=>by simp[ly] at h;subst h;exact .nil
 | v::vs,l,h=>by
  simp only[ly] at h
  split at h
  ·rename_i a ha
   split at h
   ·rename_i l' hl
    simp at h;subst h
    exact .cons (uC ha) (uD hl)
   ·simp at h
  ·simp at h
theorem dY {v:Value} {a:AV} (h:ofValue v=some a):Rep w I α a v:=by
 unfold ofValue at h
 split at h
 ·split at h
  ·rename_i l hl
   simp at h;subst h
   exact Rep.agg_iff.2 ⟨_,rfl,uD hl⟩
  ·simp at h
 ·split at h
  ·rename_i hl
   simp at h;subst h
   exact Rep.tuple_iff.2 ⟨_,rfl,by rw[hl];exact .nil⟩
  ·simp at h
 ·exact uC h
theorem az {t:TypeId} {d:TypeDesc} (h:P.underlying t=some d):(underlying t).run P w= .ok d w:=by
 simp[underlying,h]
theorem eB {t:TypeId} {i:TypeInfo} (h:P.info? t=some i):(typeInfo t).run P w= .ok i w:=by
 simp[typeInfo,h]
theorem q5 {t:TypeId} {n:Nat} (h:a8 P t=some n):∃i,P.info? t=some i∧i.size=n:=by
 simpa [a8,Option.map_eq_some_iff] using h
theorem bW {t:TypeId} {n:Nat} (h:a8 P t=some n):(sizeOf t).run P w= .ok n w:=by
 obtain ⟨i,h1,rfl⟩:=q5 h
 simp[sizeOf,eB h1]
theorem nY {t:TypeId} {b:Bool} (h:jD P t=some b):(isAgg t).run P w= .ok b w:=by
 simp only[jD,Option.map_eq_some_iff] at h
 obtain ⟨d,h1,rfl⟩:=h
 simp only[isAgg,Sem.run_bind,az h1,Result.andThen_ok]
 cases d<;>rfl
theorem eV {t:TypeId} {z:AV} (h:cJ P t=some z):∃i v,P.info? t=some i∧i.zero=some v∧ofValue v=some z:=by
 unfold cJ at h
 cases h1:P.info? t with
 |none=>simp[h1] at h
 |some i=>
  cases h2:i.zero with
  |none=>simp[h1,h2] at h
  |some v=>exact ⟨i,v,rfl,h2,by simpa [h1,h2] using h⟩
theorem eW {t:TypeId} {i:TypeInfo} {v:Value} (h:P.info? t=some i) (h2:i.zero=some v):(zeroValue t).run P w= .ok v w:=by
 simp[zeroValue,eB h,h2]
def Row (w:World) (I:Nat→Prop) (α:Nat→Option Nat) (b base:Nat) (cs:List AV):Prop:=
 ∀ (j:Nat) c,cs[j]? =some c→∃y,w.cell? ⟨b,base+j,none⟩=some y∧Rep w I α c y
theorem add_lit (b o n:Nat):(⟨b,o,none⟩:Addr).add n=⟨b,o+n,none⟩:=by
 unfold Addr.add;split<;>simp_all
theorem Row.chunk {b base:Nat} {cs:List AV} (h:Row w I α b base cs) {off n:Nat} {c:List AV} (hc:chunk cs off n=some c):
  ∃vs:List Value,vs.length=n∧(loadCells ⟨b,base+off,none⟩ n).run P w= .ok vs.toArray w∧RepL w I α c vs:=by
 obtain ⟨e1,e2,e3⟩:=gM _ _ _ _ hc
 have hget:∀j,j<n→∃x y,c[j]? =some x∧w.cell? ⟨b,base+off+j,none⟩=some y∧Rep w I α x y:=fun j hj=>by
  have hlt:off+j<cs.length:=by omega
  obtain ⟨y,h1,h2⟩:=h (off+j) cs[off+j] (by simp[hlt])
  refine ⟨cs[off+j],y, ?_,by rw[Nat.add_assoc];exact h1,h2⟩
  rw[e1,List.getElem?_take_of_lt hj,List.getElem?_drop];simp[hlt]
 let f:Nat→Value:=fun j=>(w.cell? ⟨b,base+off+j,none⟩).getD undef
 refine ⟨(List.range n).map f,by simp, ?_,⟨by simp[e2],fun i x y h1 h2=> ?_⟩⟩
 ·exact run_loadCells w _ n f (fun j hj=>by
   rw[add_lit]
   obtain ⟨x,y,_,h2,_⟩:=hget j hj
   simp[f,h2])
 ·have hi:i<n:=by
   rcases Nat.lt_or_ge i n with h'|h'
   ·exact h'
   ·rw[List.getElem?_eq_none (by omega)] at h1;cases h1
  obtain ⟨x',y',e1',e2',hr⟩:=hget i hi
  rw[e1'] at h1;cases h1
  simp[hi,f,e2'] at h2
  subst h2
  exact hr
theorem Row.part {b base:Nat} {cs:List AV} (h:Row w I α b base cs) {t:TypeId} {off:Nat} {v:AV} (hv:bU P t cs off=some v):
  ∃v',(loadVar t ⟨b,base+off,none⟩).run P w= .ok v' w∧Rep w I α v v':=by
 unfold bU at hv
 split at hv
 ·rename_i ha
  split at hv
  ·rename_i n hn
   simp only[Option.map_eq_some_iff] at hv
   obtain ⟨c,hc,rfl⟩:=hv
   obtain ⟨vs,h1,h2,h3⟩:=h.chunk (P:=P) hc
   exact ⟨.agg vs.toArray,by simp[loadVar,nY ha,bW hn,h2],Rep.agg_iff.2 ⟨_,rfl,by simpa using h3⟩⟩
  ·simp at hv
 ·rename_i ha
  rw[dJ] at hv
  obtain ⟨y,h1,h2⟩:=h off v hv
  exact ⟨y,by simp[loadVar,nY ha,h1],h2⟩
 ·simp at hv
theorem RepL.part {cs:List AV} {vs:List Value} (h:RepL w I α cs vs) {t:TypeId} {off:Nat} {v:AV} (hv:bU P t cs off=some v):
  ∃v',(part t vs.toArray off).run P w= .ok v' w∧Rep w I α v v':=by
 unfold bU at hv
 split at hv
 ·rename_i ha
  split at hv
  ·rename_i n hn
   simp only[Option.map_eq_some_iff] at hv
   obtain ⟨c,hc,rfl⟩:=hv
   obtain ⟨e1,e2,e3⟩:=gM _ _ _ _ hc
   refine ⟨.agg (vs.toArray.extract off (off+n)),by simp[Go.part,nY ha,bW hn],Rep.agg_iff.2 ⟨_,rfl, ?_⟩⟩
   have e4:(vs.toArray.extract off (off+n)).toList=(vs.drop off).take n:=by
    simp[List.extract_eq_take_drop]
   rw[e4]
   refine ⟨by rw[e1];simp[h.1],fun i x y h1 h2=> ?_⟩
   have hi:i<n:=by
    rcases Nat.lt_or_ge i n with h'|h'
    ·exact h'
    ·rw[List.getElem?_eq_none (by omega)] at h1;cases h1
   rw[e1,List.getElem?_take_of_lt hi,List.getElem?_drop] at h1
   rw[List.getElem?_take_of_lt hi,List.getElem?_drop] at h2
   exact h.2 _ _ _ h1 h2
  ·simp at hv
 ·rename_i ha
  rw[dJ] at hv
  obtain ⟨y,h1,h2⟩:=h.get hv
  exact ⟨y,by simp[Go.part,nY ha,h1],h2⟩
 ·simp at hv
theorem BRel.row {b:Nat} {l:List AV} (h:BRel w I α b (.cells l)):Row w I α b 0 l:=by
 obtain ⟨c,e,h1,h2,h3⟩:=h
 intro j x hx
 have hj:j<l.length:=by
  rcases Nat.lt_or_ge j l.length with h'|h'
  ·exact h'
  ·rw[List.getElem?_eq_none h'] at hx;cases hx
 have hjc:j<c.size:=by omega
 refine ⟨c[j],by simp[World.cell?,h1,hjc],h3.2 j x _ hx ?_⟩
 rw[List.getElem?_take_of_lt hj];simp[hjc]
theorem Rep.fptr_row {cs:List AV} {off:Nat} {v:Value} (h:Rep w I α (.fptr cs off) v):∃b base,v= .pointer (some ⟨b,base+off,none⟩)∧I b∧Row w I α b base cs:=by
 cases h with
 |fptr _ _ b base g hI hg hr=>exact ⟨b,base,rfl,hI,fun j c hc=>⟨g j,hg j c hc,hr j c hc⟩⟩
theorem Rep.fsl_elem {full:Bool} {es:List AV} {v:Value} (h:Rep w I α (.fsl full es) v) {sz:Nat} {i:Nat} {e:AV} (he:es[i]? =some e) (hsz:e.cells.length=sz):
  ∃b base len cap,v= .slice (some ⟨b,base,none⟩) len cap∧len=es.length∧I b∧Row w I α b (base+i*sz) e.cells:=by
 cases h with
 |fsl _ _ a len cap sz' b base g hl hc hf ha hI hs hg hr=>
  have hne:es≠[]:=by intro h;simp[h] at he
  have:sz'=sz:=by rw[←hs e (List.mem_of_getElem? he),hsz]
  subst this
  exact ⟨b,base,len,cap,by rw[nS hl hc ha hne],hl.symm,hI hne,fun j c hc'=>⟨g i j,hg i e j c he hc',hr i e j c he hc'⟩⟩
end
end Go.Proofs.Abs
/- Each operation that looks at values, or loads: what it yields. -/
namespace Go.Proofs.Abs
open Go
def dZ (w:World) (I:Nat→Prop) (α:Nat→Option Nat) (s:Tr) (tmps:Array Value):Prop:=
 ∀t v,s.get t=some v→∃y,tmps[t]? =some y∧Rep w I α v y
section
variable {P:Program} {G:ax} {call:aB} {w:World} {I:Nat→Prop} {α:Nat→Option Nat} {H:aa} {rid nx:Nat}
theorem aT {s:Tr} {a:Act} {x:Operand} {v:AV} (hs:dZ w I α s a.tmps) (h:aL s x=some v):Rep w I α v (a.eval x):=by
 cases x with
 |tmp t=>
  obtain ⟨y,h1,h2⟩:=hs t v h
  simp[Act.eval,h1];exact h2
 |const c=>exact dY h
 |global g=>simp[aL] at h;subst h;exact .gptr g 0
 |func f=>simp[aL] at h;subst h;exact Rep.func_iff.2 ⟨#[], #[],rfl,by simpa using RepL.nil,by simpa using RepL.nil⟩
theorem nZ {s:Tr} {a:Act} (hs:dZ w I α s a.tmps):∀ {l:List Operand} {vs:List AV},dV (aL s) l=some vs→RepL w I α vs (l.map a.eval)
 |[],vs,h=>by simp[dV] at h;subst h;exact .nil
 | x::l,vs,h=>by
  simp only[dV] at h
  split at h
  ·rename_i v hv
   simp only[Option.map_eq_some_iff] at h
   obtain ⟨us,h1,rfl⟩:=h
   exact .cons (aT hs hv) (nZ hs h1)
  ·simp at h
def bO (P:Program) (G:ax) (call:aB) (w:World) (I:Nat→Prop) (α:Nat→Option Nat) (H:aa) (rid nx:Nat) (s:Sem Value) (e:Eff):Prop:=
 b7 P G call w I α H rid nx ((s.run P w).andThen fun v w'=> .ok (.value v) w') e
def n3 (P:Program) (G:ax) (call:aB) (w:World) (I:Nat→Prop) (α:Nat→Option Nat) (H:aa) (rid nx:Nat) (s:Sem Unit) (e:Eff):Prop:=
 b7 P G call w I α H rid nx ((s.run P w).andThen fun _ w'=> .ok .skip w') e
theorem bh {s:Sem Value} {v:AV} {v':Value} (c:Ctx P G call w I α H rid nx) (hm:s.run P w= .ok v' w) (h:Rep w I α v v'):bO P G call w I α H rid nx s (.val v):=
 dI c (by rw[hm];rfl) h
theorem f6 (k:IntKind) (n:Int):af k n=k.wrap n:=by
 cases k<;>cases n<;>simp only[af]
 ·split
  ·rename_i m h
   have h:=Nat.le_of_ble_eq_true h
   rw[IntWalk.i64_in _ ⟨by simp only[Int.ofNat_eq_natCast];omega,by simp only[Int.ofNat_eq_natCast];omega⟩]
  ·rfl
 ·split
  ·rename_i m h
   have h:=Nat.le_of_ble_eq_true h
   rw[IntWalk.i64_in _ ⟨by simp only[Int.negSucc_eq];omega,by simp only[Int.negSucc_eq];omega⟩]
  ·rfl
 ·split
  ·rename_i m h
   have h:=Nat.le_of_ble_eq_true h
   rw[IntWalk.u8_in _ ⟨by simp only[Int.ofNat_eq_natCast];omega,by simp only[Int.ofNat_eq_natCast];omega⟩]
  ·rfl
 ·split
  ·rename_i m h
   have h:=Nat.le_of_ble_eq_true h
   rw[IntWalk.u32_in _ ⟨by simp only[Int.ofNat_eq_natCast];omega,by simp only[Int.ofNat_eq_natCast];omega⟩]
  ·rfl
 ·split
  ·rename_i m h
   have h:=Nat.le_of_ble_eq_true h
   rw[IntWalk.u64_in _ ⟨by simp only[Int.ofNat_eq_natCast];omega,by simp only[Int.ofNat_eq_natCast];omega⟩]
  ·rfl
theorem f9 (a b:Int):ag a b=(a==b):=by
 cases a<;>cases b<;>simp[ag]<;>(rw[Bool.eq_iff_iff];simp;try omega)
theorem fz (a b:Int):am a b=decide (a<b):=by
 cases a<;>cases b<;>simp only[am]<;>rw[Bool.eq_iff_iff]<;>simp<;>omega
theorem jT:∀ (a b:List UInt8),cW a b=(a==b)
 |[],[]=>rfl
 |[],_::_=>rfl
 |_::_,[]=>rfl
 | a::x,b::y=>by
  simp only[cW]
  split
  ·rename_i h
   have:a=b:=UInt8.toNat_inj.1 (beq_iff.1 h)
   subst this
   rw[jT x y];simp
  ·rename_i h
   have:a≠b:=fun e=>beq_false_iff.1 h (by rw[e])
   simp[this]
theorem uE:∀ (a b:List UInt8),dF a b=Op.bytesLess a b
 |x,[]=>by cases x<;>simp[dF,Op.bytesLess]
 |[],_::_=>by simp[dF,Op.bytesLess]
 | a::x,b::y=>by
  simp only[dF,Op.bytesLess]
  split
  ·rename_i h
   have:a<b:=by rw[UInt8.lt_iff_toNat_lt];simpa using h
   simp[this]
  ·rename_i h
   have h1:¬a<b:=by
    rw[UInt8.lt_iff_toNat_lt]
    have:¬ (Nat.blt a.toNat b.toNat=true):=by rw[h];simp
    simpa using this
   split
   ·rename_i h2
    have:a=b:=UInt8.toNat_inj.1 (beq_iff.1 h2)
    subst this
    rw[uE x y];simp
   ·rename_i h2
    have:a≠b:=fun e=>beq_false_iff.1 h2 (by rw[e])
    simp[h1,this]
theorem q6 {n m:Nat} (ih:∀ (t:TypeId) (x y:AV) (x' y':Value) (r:Bool),Rep w I α x x'→Rep w I α y y'→co P n t x y=some r→(Op.equalIn m t x' y').run P w= .ok r w):
  ∀ (fs:List Field) (xs ys:List AV) (xs' ys':List Value) (r:Bool),RepL w I α xs xs'→RepL w I α ys ys'→fX P (co P n) fs xs ys=some r→
   (Op.eqFields m xs'.toArray ys'.toArray fs).run P w= .ok r w
 |[],_,_,_,_,r,_,_,h=>by simp[fX] at h;subst h;rfl
 | f ::fs,xs,ys,xs',ys',r,hx,hy,h=>by
  simp only[fX] at h
  split at h
  ·rename_i hn
   have hn:f.name= "_" :=by simpa using hn
   simp only[Op.eqFields,hn,ne_eq,not_true_eq_false,if_false]
   exact q6 ih fs xs ys xs' ys' r hx hy h
  ·rename_i hn
   have hn:f.name≠ "_" :=by simpa using hn
   split at h
   ·rename_i a b ha hb
    obtain ⟨a',ra,ha'⟩:=hx.part (P:=P) ha
    obtain ⟨b',rb,hb'⟩:=hy.part (P:=P) hb
    simp only[Op.eqFields,ne_eq,hn,not_false_eq_true,if_true,Sem.run_bind,ra,rb,Result.andThen_ok]
    split at h
    ·rename_i he
     rw[ih _ _ _ _ _ _ ha' hb' he]
     simp only[Result.andThen_ok,Bool.not_true,Bool.false_eq_true,if_false]
     exact q6 ih fs xs ys xs' ys' r hx hy h
    ·rename_i he
     rw[ih _ _ _ _ _ _ ha' hb' he]
     simp at h;subst h
     rfl
    ·simp at h
   ·simp at h
theorem uF {n m:Nat} (ih:∀ (t:TypeId) (x y:AV) (x' y':Value) (r:Bool),Rep w I α x x'→Rep w I α y y'→co P n t x y=some r→(Op.equalIn m t x' y').run P w= .ok r w) {e:TypeId} {sz:Nat} {xs ys:List AV} {xs' ys':List Value} (hx:RepL w I α xs xs') (hy:RepL w I α ys ys'):
  ∀ (is:List Nat) (r:Bool),gE P (co P n) e sz xs ys is=some r→(Op.eqItems m e sz xs'.toArray ys'.toArray is).run P w= .ok r w
 |[],r,h=>by simp[gE] at h;subst h;rfl
 | i::is,r,h=>by
  simp only[gE] at h
  split at h
  ·rename_i a b ha hb
   obtain ⟨a',ra,ha'⟩:=hx.part (P:=P) ha
   obtain ⟨b',rb,hb'⟩:=hy.part (P:=P) hb
   simp only[Op.eqItems,Sem.run_bind,ra,rb,Result.andThen_ok]
   split at h
   ·rename_i he
    rw[ih _ _ _ _ _ _ ha' hb' he]
    simpa using uF ih hx hy is r h
   ·rename_i he
    rw[ih _ _ _ _ _ _ ha' hb' he]
    simp at h;subst h
    simp
   ·simp at h
  ·simp at h
set_option maxHeartbeats 1600000 in
theorem q7:∀ (n m:Nat),n≤m→∀ (t:TypeId) (x y:AV) (x' y':Value) (r:Bool),Rep w I α x x'→Rep w I α y y'→co P n t x y=some r→(Op.equalIn m t x' y').run P w= .ok r w
  |0,_,_,_,_,_,_,_,_,_,_,h=>by simp[co] at h
  |n+1,0,hn,_,_,_,_,_,_,_,_,_=>by omega
  | n + 1, m +1,hn,t,x,y,x',y',r,hx,hy,h=>by
    unfold co at h
    split at h
    case h_4 fs xs ys ht=>
      obtain ⟨xs',rfl,hx'⟩:=Rep.agg_iff.1 hx
      obtain ⟨ys',rfl,hy'⟩:=Rep.agg_iff.1 hy
      split at h
      · simp at h
      · rename_i hst
        have hf:P.fieldsOf t=fs:=by simp[Program.fieldsOf,ht]
        rw[run_equalIn_struct w m t xs' ys' (by rw[hf];exact ht) (by simpa using hst),hf]
        exact q6 (q7 n m (by omega)) fs.toList xs ys xs'.toList ys'.toList r hx' hy' h
    case h_22 k e xs ys ht=>
      obtain ⟨xs',rfl,hx'⟩:=Rep.agg_iff.1 hx
      obtain ⟨ys',rfl,hy'⟩:=Rep.agg_iff.1 hy
      split at h
      · rename_i sz hsz
        simp only[a8,Option.map_eq_some_iff] at hsz
        obtain ⟨i,hi,hsz⟩:=hsz
        have hc:P.cellsOf e=sz:=by simp[Program.cellsOf,hi,hsz]
        rw[run_equalIn_array w m xs' ys' ht hi,hc]
        exact uF (q7 n m (by omega)) hx' hy' _ r h
      · simp at h
    case h_2 ht=>
      cases hx;cases hy
      split at h
      · rename_i e;subst e;simp only[Option.some.injEq] at h;subst h
        simp[Op.equalIn,az ht,f9]
      · simp at h
    case h_3 ht=>
      cases hx with
      | str _ b hb=>cases hy with
        | str _ b' hb'=>
          simp only[Option.some.injEq] at h;subst h
          rw[run_equalIn_string w m t b b' ht,ByteArray.toList_eq,ByteArray.toList_eq,hb,hb',jT]
    all_goals first
      | (rename_i ht
         cases hx with
         | fsl _ _ a len cap sz b base g hl hc hf ha hI hs hg hr=>
           have ha':a=some ⟨b,base,none⟩:=by
             rcases ha with ha|⟨_,h0⟩
             · exact ha
             · exfalso;simp at hl;omega
           clear ha hI hs hg hr
           subst ha'
           cases hy;simp only[Option.some.injEq] at h;subst h
           simp[Op.equalIn,az ht];done)
      |(rename_i ht;cases hx;cases hy;simp only[Option.some.injEq] at h;subst h;simp[Op.equalIn,az ht];done)
      |(simp at h;done)
end
end Go.Proofs.Abs
/- Operations on values, loads, new variables. -/
namespace Go.Proofs.Abs
open Go
section
variable {P:Program} {G:ax} {call:aB} {w:World} {I:Nat→Prop} {α:Nat→Option Nat} {H:aa} {rid nx:Nat}
theorem zK {t:TypeId} {x y:AV} {x' y':Value} {r:Bool} (hx:Rep w I α x x') (hy:Rep w I α y y') (h:co P 16 t x y=some r):
  (Op.equal t x' y').run P w= .ok r w:=q7 16 10000 (by omega) t x y x' y' r hx hy h
theorem zL {op:BinOp} {t:TypeId} {xo yo:Operand} {k k':IntKind} {a b:Int} {v:AV} (h:an P op t xo yo (.int k a) (.int k' b)=some v):
  ∃v',(do eqGuard op t xo yo (.int k a) (.int k' b);binOp op t (.int k a) (.int k' b):Sem Value).run P w= .ok v' w∧Rep w I α v v':=by
 have hg:(eqGuard op t xo yo (.int k a) (.int k' b)).run P w= .ok () w:=by cases op<;>simp[eqGuard]
 simp only[Sem.run_bind,hg,Result.andThen_ok]
 cases op
 case shl=>
  simp only[an,fz] at h
  split at h
  ·simp at h
  ·rename_i hb
   simp at h hb;subst h
   refine ⟨_, ?_,.int _ _⟩
   rw[f6]
   simp[binOp,Op.shift,Int.not_lt.2 hb]
 case shr=>
  simp only[an,fz] at h
  split at h
  ·simp at h
  ·rename_i hb
   simp at h hb;subst h
   refine ⟨_, ?_,.int _ _⟩
   simp[binOp,Op.shift,Int.not_lt.2 hb]
 all_goals
  have hk:k=k':=Decidable.by_contra fun hne=>by simp[an,hne] at h
  subst hk
  simp only[an,ne_eq,not_true_eq_false,if_false] at h
 case quo=>
  rw[f9] at h
  split at h
  ·simp at h
  ·rename_i hb
   simp at hb h;subst h
   refine ⟨_, ?_,.int _ _⟩
   rw[f6]
   simp[binOp,Op.intDiv,hb]
 case rem=>
  rw[f9] at h
  split at h
  ·simp at h
  ·rename_i hb
   simp at hb h;subst h
   refine ⟨_, ?_,.int _ _⟩
   simp[binOp,Op.intDiv,hb]
 case eql=>simp only[Option.some.injEq] at h;subst h;exact ⟨_,by simp[binOp,Op.intCmp,f9],.bool _⟩
 case neq=>simp only[Option.some.injEq] at h;subst h;exact ⟨_,by simp[binOp,Op.intCmp,f9];rfl,.bool _⟩
 case lss=>simp only[Option.some.injEq] at h;subst h;exact ⟨_,by simp[binOp,Op.intCmp,fz],.bool _⟩
 case leq=>simp only[Option.some.injEq] at h;subst h;exact ⟨_,by simp[binOp,Op.intCmp,fz];rw[Bool.eq_iff_iff];simp,.bool _⟩
 case gtr=>simp only[Option.some.injEq] at h;subst h;exact ⟨_,by simp[binOp,Op.intCmp,fz],.bool _⟩
 case geq=>simp only[Option.some.injEq] at h;subst h;exact ⟨_,by simp[binOp,Op.intCmp,fz];rw[Bool.eq_iff_iff];simp,.bool _⟩
 all_goals first
  |(simp at h;done)
  |(simp only[Option.some.injEq] at h;subst h;exact ⟨_,by simp[binOp,Op.intArith,Op.intBits,f6],.int _ _⟩)
theorem zM {op:BinOp} {t:TypeId} {xo yo:Operand} {a b:List UInt8} {a' b':ByteArray} {v:AV} (ha:a'.data.toList=a) (hb:b'.data.toList=b)
  (h:an P op t xo yo (.str a) (.str b)=some v):
  ∃v',(do eqGuard op t xo yo (.string a') (.string b');binOp op t (.string a') (.string b'):Sem Value).run P w= .ok v' w∧Rep w I α v v':=by
 have hg:(eqGuard op t xo yo (.string a') (.string b')).run P w= .ok () w:=by cases op<;>simp[eqGuard]
 simp only[Sem.run_bind,hg,Result.andThen_ok]
 have la:a'.toList=a:=by rw[ByteArray.toList_eq,ha]
 have lb:b'.toList=b:=by rw[ByteArray.toList_eq,hb]
 have sa:a'.size=a.length:=by rw[←ha];exact Array.length_toList.symm
 have sb:b'.size=b.length:=by rw[←hb];exact Array.length_toList.symm
 cases op<;>simp only[an] at h
 case add=>
  split at h
  ·rename_i hc
   simp only[Option.some.injEq] at h;subst h
   refine ⟨.string (a'++b'), ?_,.str _ _ (by rw[ByteArray.data_append,Array.toList_append,ha,hb])⟩
   have hc':=Nat.le_of_ble_eq_true hc
   rw[ap,ap] at hc'
   have:¬ (((a'.size+b'.size:Nat):Int)>IntKind.i64.max):=by
    have:IntKind.i64.max=9223372036854775807:=by decide
    rw[this,sa,sb];omega
   simp only[binOp,Op.stringOp,if_neg this]
   rfl
  ·simp at h
 all_goals first
  |(simp at h;done)
  |(simp only[Option.some.injEq] at h;subst h;exact ⟨_,by simp[binOp,Op.stringOp,la,lb,jT,uE]<;>rfl,.bool _⟩)
theorem Rep.int_inv {x:AV} {k:IntKind} {n:Int} (h:Rep w I α x (.int k n)):x= .int k n:=by cases h;rfl
theorem Rep.str_inv {x:AV} {s:ByteArray} (h:Rep w I α x (.string s)):∃l,x= .str l:=by cases h;exact ⟨_,rfl⟩
theorem Rep.float_inv {x:AV} {k:FloatKind} {n:Nat} (h:Rep w I α x (.float k n)):False:=by cases h
theorem Rep.complex_inv {x:AV} {k:FloatKind} {n m:Nat} (h:Rep w I α x (.complex k n m)):False:=by cases h
theorem Rep.agg_inv {x:AV} {a:Array Value} (h:Rep w I α x (.agg a)):∃l,x= .agg l:=by cases h;exact ⟨_,rfl⟩
theorem Rep.nilIface_inv {x:AV} (h:Rep w I α x .nilIface):x= .nilIface:=by cases h;rfl
theorem zN {t:TypeId} {x y:AV} {x' y':Value} (hx:Rep w I α x x') (hy:Rep w I α y y')
  (hi:¬ ((∃k a,x= .int k a)∧(∃k a,y= .int k a))) (hs:¬ ((∃a,x= .str a)∧(∃a,y= .str a))):
  (binOp .eql t x' y').run P w=((Op.equal t x' y').run P w).andThen fun b w'=> .ok (.bool b) w':=by
 unfold binOp
 split<;>first
  |(exact absurd ⟨⟨_,_,hx.int_inv⟩,⟨_,_,hy.int_inv⟩⟩ hi)
  |(exact hx.float_inv.elim)
  |(exact hx.complex_inv.elim)
  |(exact absurd ⟨hx.str_inv,hy.str_inv⟩ hs)
  |simp_all
theorem zO {t:TypeId} {x y:AV} {x' y':Value} (hx:Rep w I α x x') (hy:Rep w I α y y')
  (hi:¬ ((∃k a,x= .int k a)∧(∃k a,y= .int k a))) (hs:¬ ((∃a,x= .str a)∧(∃a,y= .str a))):
  (binOp .neq t x' y').run P w=((Op.equal t x' y').run P w).andThen fun b w'=> .ok (.bool (!b)) w':=by
 unfold binOp
 split<;>first
  |(exact absurd ⟨⟨_,_,hx.int_inv⟩,⟨_,_,hy.int_inv⟩⟩ hi)
  |(exact hx.float_inv.elim)
  |(exact hx.complex_inv.elim)
  |(exact absurd ⟨hx.str_inv,hy.str_inv⟩ hs)
  |simp_all
theorem uG {op:BinOp} {t:TypeId} {xo yo:Operand} {x y:AV} {x' y':Value} (hx:Rep w I α x x') (hy:Rep w I α y y')
  (h1:¬ ((∃l,x= .agg l)∧(∃l,y= .agg l))) (h2:¬ (x= .nilIface∧y= .nilIface)):(eqGuard op t xo yo x' y').run P w= .ok () w:=by
 have key:∀op,op= .eql∨op= .neq→(eqGuard op t xo yo x' y').run P w= .ok () w:=by
  intro op hop
  cases x' with
  |nilIface=>
   have e1:=hx.nilIface_inv
   cases y' with
   |nilIface=>exact absurd ⟨e1,hy.nilIface_inv⟩ h2
   |_=>rcases hop with rfl|rfl<;>simp[eqGuard]
  |agg l=>
   have e1:=hx.agg_inv
   cases y' with
   |agg l'=>exact absurd ⟨e1,hy.agg_inv⟩ h1
   |_=>rcases hop with rfl|rfl<;>simp[eqGuard]
  |_=>rcases hop with rfl|rfl<;>simp[eqGuard]
 cases op<;>first
  |exact key _ (.inl rfl)
  |exact key _ (.inr rfl)
  |simp[eqGuard]
theorem zP {op:BinOp} {t:TypeId} {xo yo:Operand} {x y:AV} {x' y':Value} {v:AV} (hx:Rep w I α x x') (hy:Rep w I α y y')
  (h:an P op t xo yo x y=some v):
  ∃v',(do eqGuard op t xo yo x' y';binOp op t x' y':Sem Value).run P w= .ok v' w∧Rep w I α v v':=by
 by_cases hi:(∃k a,x= .int k a)∧(∃k a,y= .int k a)
 ·obtain ⟨⟨k,a,rfl⟩,⟨k',b,rfl⟩⟩:=hi
  cases hx;cases hy
  exact zL h
 by_cases hs:(∃a,x= .str a)∧(∃a,y= .str a)
 ·obtain ⟨⟨a,rfl⟩,⟨b,rfl⟩⟩:=hs
  cases hx with
  |str _ a' ha=>cases hy with
   |str _ b' hb=>exact zM ha hb h
 have heq:∀ (r:Bool),co P 16 t x y=some r→(op= .eql∧v= .bool r∨op= .neq∧v= .bool (!r))→(eqGuard op t xo yo x' y').run P w= .ok () w→
   ∃v',(do eqGuard op t xo yo x' y';binOp op t x' y':Sem Value).run P w= .ok v' w∧Rep w I α v v':=by
  intro r hr hop hg
  have hrun:=zK hx hy hr
  rcases hop with ⟨rfl,rfl⟩|⟨rfl,rfl⟩
  ·refine ⟨.bool r, ?_,.bool _⟩
   simp only[Sem.run_bind,hg,Result.andThen_ok]
   rw[zN hx hy hi hs,hrun];rfl
  ·refine ⟨.bool (!r), ?_,.bool _⟩
   simp only[Sem.run_bind,hg,Result.andThen_ok]
   rw[zO hx hy hi hs,hrun];rfl
 unfold an at h
 split at h
 ·exact absurd ⟨⟨_,_,rfl⟩,⟨_,_,rfl⟩⟩ hi
 ·exact absurd ⟨⟨_,_,rfl⟩,⟨_,_,rfl⟩⟩ hi
 ·exact absurd ⟨⟨_,_,rfl⟩,⟨_,_,rfl⟩⟩ hi
 ·exact absurd ⟨⟨_,rfl⟩,⟨_,rfl⟩⟩ hs
 ·split at h
  ·simp at h
  ·rename_i hgd
   simp only[Option.map_eq_some_iff] at h
   obtain ⟨r,hr,rfl⟩:=h
   obtain ⟨xs',rfl,_⟩:=Rep.agg_iff.1 hx
   obtain ⟨ys',rfl,_⟩:=Rep.agg_iff.1 hy
   exact heq r hr (.inl ⟨rfl,rfl⟩) (run_eqGuard_agg w _ t _ _ _ _ (by simpa using hgd))
 ·split at h
  ·simp at h
  ·rename_i hgd
   simp only[Option.map_eq_some_iff] at h
   obtain ⟨r,hr,rfl⟩:=h
   obtain ⟨xs',rfl,_⟩:=Rep.agg_iff.1 hx
   obtain ⟨ys',rfl,_⟩:=Rep.agg_iff.1 hy
   exact heq r hr (.inr ⟨rfl,rfl⟩) (run_eqGuard_agg w _ t _ _ _ _ (by simpa using hgd))
 ·split at h
  ·rename_i hc
   simp only[Option.map_eq_some_iff] at h
   obtain ⟨r,hr,rfl⟩:=h
   cases hx;cases hy
   refine heq r hr (.inl ⟨rfl,rfl⟩) ?_
   rcases Bool.or_eq_true_iff.1 hc with hc|hc<;>(unfold jE at hc;split at hc<;>first|(simp at hc;done)|simp[eqGuard])
  ·simp at h
 ·split at h
  ·rename_i hc
   simp only[Option.map_eq_some_iff] at h
   obtain ⟨r,hr,rfl⟩:=h
   cases hx;cases hy
   refine heq r hr (.inr ⟨rfl,rfl⟩) ?_
   rcases Bool.or_eq_true_iff.1 hc with hc|hc<;>(unfold jE at hc;split at hc<;>first|(simp at hc;done)|simp[eqGuard])
  ·simp at h
 ·rename_i h1 h2
  simp only[Option.map_eq_some_iff] at h
  obtain ⟨r,hr,rfl⟩:=h
  refine heq r hr (.inl ⟨rfl,rfl⟩) (uG hx hy ?_ ?_)
  ·rintro ⟨⟨l,rfl⟩,⟨l',rfl⟩⟩;exact (h1 _ _ rfl rfl).elim
  ·rintro ⟨rfl,rfl⟩;exact (h2 rfl rfl).elim
 ·rename_i h1 h2
  simp only[Option.map_eq_some_iff] at h
  obtain ⟨r,hr,rfl⟩:=h
  refine heq r hr (.inr ⟨rfl,rfl⟩) (uG hx hy ?_ ?_)
  ·rintro ⟨⟨l,rfl⟩,⟨l',rfl⟩⟩;exact (h1 _ _ rfl rfl).elim
  ·rintro ⟨rfl,rfl⟩;exact (h2 rfl rfl).elim
 ·simp at h
theorem zQ {op:UnOp} {x:AV} {x':Value} {v:AV} (hx:Rep w I α x x') (h:qy op x=some v):∃v',(Op.unary op x').run P w= .ok v' w∧Rep w I α v v':=by
 unfold qy at h
 split at h
 ·cases hx;simp at h;subst h;exact ⟨_,by simp[Op.unary,Op.intArith,f6],.int _ _⟩
 ·cases hx;simp only[Option.some.injEq] at h;subst h;exact ⟨_,by simp[Op.unary,Op.intBits,f6],.int _ _⟩
 ·cases hx;simp at h;subst h;exact ⟨_,by simp[Op.unary],.bool _⟩
 ·simp at h
end
end Go.Proofs.Abs
/- Loads, addresses, parts, aggregates, new variables. -/
namespace Go.Proofs.Abs
open Go
section
variable {P:Program} {G:ax} {call:aB} {w:World} {I:Nat→Prop} {α:Nat→Option Nat} {H:aa} {rid nx:Nat}
theorem zR {t:TypeId} {x:AV} {x':Value} {e:Eff} (c:Ctx P G call w I α H rid nx) (hx:Rep w I α x x') (h:dk P t x G=some e):
  bO P G call w I α H rid nx (Instr.loadAt t x') e:=by
 unfold dk at h
 split at h
 ·rename_i id off
  simp only[Option.some.injEq] at h;subst h
  cases hx with
  | ptr _ _ b hb=>
   refine ez c fun blk b' e' hg hα hB hk=> ?_
   rw[hb] at hα;cases hα
   split at hk
   ·simp only[Option.map_eq_some_iff] at hk
    obtain ⟨v,hv,rfl⟩:=hk
    obtain ⟨v',h1,h2⟩:=hB.row.part (P:=P) hv
    rw[Nat.zero_add] at h1
    exact dI c (by simp[Instr.loadAt,Instr.sureAddr,h1]) h2
   ·simp at hk
 ·simp only[Option.map_eq_some_iff] at h
  obtain ⟨v,hv,rfl⟩:=h
  obtain ⟨b,base,rfl,hI,hr⟩:=hx.fptr_row
  obtain ⟨v',h1,h2⟩:=hr.part (P:=P) hv
  exact dI c (by simp[Instr.loadAt,Instr.sureAddr,h1]) h2
 ·rename_i g off
  split at h
  ·rename_i l hl
   simp only[Option.map_eq_some_iff] at h
   obtain ⟨v,hv,rfl⟩:=h
   cases hx
   have hr:Row w I α g 0 l:=fun j x hx=>by
    obtain ⟨y,h1,h2⟩:=(c.rel.glob g l hl).2 j x hx
    exact ⟨y,by rw[Nat.zero_add];exact h1,h2⟩
   obtain ⟨v',h1,h2⟩:=hr.part (P:=P) hv
   rw[Nat.zero_add] at h1
   exact dI c (by simp[Instr.loadAt,Instr.sureAddr,h1]) h2
  ·simp at h
 ·simp at h
theorem uH {t:TypeId} {f:Nat} {fd:Field} (h:iE P t f=some fd):∃fs,P.underlying t=some (.struct fs)∧fs[f]? =some fd:=by
 unfold iE at h
 split at h
 ·rename_i fs ht;exact ⟨fs,ht,h⟩
 ·simp at h
theorem zS {t:TypeId} {x:AV} {x':Value} {f:Nat} {v:AV} (hx:Rep w I α x x') (h:lD P t x f=some v):
  ∃v',(Instr.fieldAt t x' f).run P w= .ok v' w∧Rep w I α v v':=by
 unfold lD at h
 split at h
 ·rename_i fd hfd
  obtain ⟨fs,ht,hf⟩:=uH hfd
  split at h
  ·rename_i n hn
   have hsz:=bW (w:=w) hn
   have main:∀b o,x'= .pointer (some ⟨b,o,none⟩)→(Instr.fieldAt t x' f).run P w= .ok (.pointer (some ⟨b,o+fd.offset,none⟩)) w:=by
    rintro b o rfl
    simp[Instr.fieldAt,az ht,hf,Instr.sureAddr,fieldPlace,hsz,add_lit]
   split at h
   ·simp only[Option.some.injEq] at h;subst h
    cases hx with
    |ptr _ _ b hb=>exact ⟨_,main b _ rfl,.ptr _ _ b hb⟩
   ·rename_i cs off
    simp only[Option.some.injEq] at h;subst h
    cases hx with
    |fptr _ _ b base g hI hg hr=>exact ⟨_,main b _ rfl,by rw[Nat.add_assoc];exact .fptr cs _ b base g hI hg hr⟩
   ·rename_i g off
    simp only[Option.some.injEq] at h;subst h
    cases hx
    exact ⟨_,main g _ rfl,.gptr _ _⟩
   ·simp at h
  ·simp at h
 ·simp at h
theorem zT {t:TypeId} {x i:AV} {x' i':Value} {v:AV} (hx:Rep w I α x x') (hi:Rep w I α i i') (h:aJ P t x i=some v):
  ∃v',(Instr.indexAt t x' i').run P w= .ok v' w∧Rep w I α v v':=by
 unfold aJ at h
 cases hn:dG i with
 |none=>simp[hn] at h
 | some n=>
  simp only[hn,Option.bind_eq_bind,Option.bind_some] at h
  have hi':∃k,i'= .int k n:=by
   unfold dG at hn
   split at hn
   ·simp at hn;subst hn;cases hi;exact ⟨_,rfl⟩
   ·simp at hn
  obtain ⟨k,rfl⟩:=hi'
  split at h
  ·rename_i m e ht
   cases hsz:a8 P e with
   |none=>simp[hsz] at h
   | some sz=>
    simp only[hsz,Option.bind_some] at h
    split at h
    ·rename_i hlt
     have hlt:n<m:=by simpa using hlt
     have main:∀b o,x'= .pointer (some ⟨b,o,none⟩)→(Instr.indexAt t x' (.int k n)).run P w= .ok (.pointer (some ⟨b,o+n*sz,none⟩)) w:=by
      rintro b o rfl
      have h1:(0:Int)≤n∧(n:Int)<m:=by omega
      simp[Instr.indexAt,asIntOf,az ht,Instr.sureAddr,h1,bW hsz,add_lit]
      intro hh;omega
     split at h
     ·simp only[Option.some.injEq] at h;subst h
      cases hx with
      |ptr _ _ b hb=>exact ⟨_,main b _ rfl,.ptr _ _ b hb⟩
     ·rename_i cs off
      simp only[Option.some.injEq] at h;subst h
      cases hx with
      |fptr _ _ b base g hI hg hr=>exact ⟨_,main b _ rfl,by rw[Nat.add_assoc];exact .fptr cs _ b base g hI hg hr⟩
     ·rename_i g off
      simp only[Option.some.injEq] at h;subst h
      cases hx
      exact ⟨_,main g _ rfl,.gptr _ _⟩
     ·simp at h
    ·simp at h
  ·rename_i e ht
   cases hsz:a8 P e with
   |none=>simp[hsz] at h
   | some sz=>
    simp only[hsz,Option.bind_some] at h
    have main:∀b o len cap,x'= .slice (some ⟨b,o,none⟩) len cap→n<len→(Instr.indexAt t x' (.int k n)).run P w= .ok (.pointer (some ⟨b,o+n*sz,none⟩)) w:=by
     rintro b o len cap rfl hlt
     have h1:(0:Int)≤n∧(n:Int)<len:=by omega
     simp[Instr.indexAt,asIntOf,az ht,h1,bW hsz,add_lit]
     intro hh;omega
    split at h
    ·rename_i es
     split at h
     ·rename_i el hel
      rw[dJ] at hel
      split at h
      ·rename_i hc
       have hc:el.cells.length=sz:=by rw[ap] at hc;exact beq_iff.1 hc
       simp only[Option.some.injEq] at h;subst h
       obtain ⟨b,base,len,cap,rfl,hlen,hI,hrow⟩:=hx.fsl_elem hel hc
       have hlt:n<len:=by
        rw[hlen]
        rcases Nat.lt_or_ge n es.length with h'|h'
        ·exact h'
        ·rw[List.getElem?_eq_none h'] at hel;cases hel
       refine ⟨_,main b base len cap rfl hlt, ?_⟩
       have:∀j,j<el.cells.length→∃y,w.cell? ⟨b,base+n*sz+j,none⟩=some y:=fun j hj=>by
        obtain ⟨y,h1,_⟩:=hrow j el.cells[j] (by simp[hj])
        exact ⟨y,h1⟩
       have hg:∀j c,el.cells[j]? =some c→w.cell? ⟨b,base+n*sz+j,none⟩=some ((w.cell? ⟨b,base+n*sz+j,none⟩).getD undef):=fun j c hj=>by
        obtain ⟨y,h1,_⟩:=hrow j c hj
        rw[h1];rfl
       have hr:∀j c,el.cells[j]? =some c→Rep w I α c ((w.cell? ⟨b,base+n*sz+j,none⟩).getD undef):=fun j c hj=>by
        obtain ⟨y,h1,h2⟩:=hrow j c hj
        rw[h1];exact h2
       exact .fptr el.cells 0 b (base+n*sz) (fun j=>(w.cell? ⟨b,base+n*sz+j,none⟩).getD undef) hI hg hr
      ·simp at h
     ·simp at h
    ·split at h
     ·rename_i hc
      simp only[Bool.and_eq_true] at hc
      have hlt:=hc.1
      simp only[Option.some.injEq] at h;subst h
      cases hx with
      |rsl _ _ _ _ _ cap b hb hcap ho=>exact ⟨_,main b _ _ _ rfl (by simpa using hlt),.ptr _ _ b hb⟩
     ·simp at h
    ·simp at h
  ·simp at h
theorem zU {t:TypeId} {x i:AV} {x' i':Value} {v:AV} (hx:Rep w I α x x') (hi:Rep w I α i i') (h:cX P t x i=some v):
  ∃v',(Instr.index t x' i').run P w= .ok v' w∧Rep w I α v v':=by
 unfold cX at h
 cases hn:dG i with
 |none=>simp[hn] at h
 | some n=>
  simp only[hn,Option.bind_eq_bind,Option.bind_some] at h
  have hi':∃k,i'= .int k n:=by
   unfold dG at hn
   split at hn
   ·simp at hn;subst hn;cases hi;exact ⟨_,rfl⟩
   ·simp at hn
  obtain ⟨k,rfl⟩:=hi'
  split at h
  ·rename_i m e cs ht
   split at h
   ·rename_i hlt
    have hlt:n<m:=by simpa using hlt
    cases hsz:a8 P e with
    |none=>simp[hsz] at h
    |some sz=>
     simp only[hsz,Option.bind_some] at h
     obtain ⟨cs',rfl,hcs⟩:=Rep.agg_iff.1 hx
     obtain ⟨v',h1,h2⟩:=hcs.part (P:=P) h
     have hb:(0:Int)≤n∧(n:Int)<m:=by omega
     exact ⟨v',by simp[Instr.index,asIntOf,az ht,bW hsz];rw[if_pos hlt];simpa using h1,h2⟩
   ·simp at h
  ·rename_i s ht
   simp only[Option.map_eq_some_iff] at h
   obtain ⟨b,hb,rfl⟩:=h
   rw[dJ] at hb
   cases hx with
   | str _ bs hbs=>
    have:bs[n]? =some b:=by
     have hlt:n<bs.size:=by
      have:bs.size=s.length:=by rw[←hbs];exact Array.length_toList.symm
      rcases Nat.lt_or_ge n s.length with h'|h'
      ·omega
      ·rw[List.getElem?_eq_none h'] at hb;cases hb
     rw[ByteArray.getElem?_lt' bs n hlt]
     congr 1
     rw[←hbs] at hb
     simp only[Array.getElem?_toList] at hb
     have h2:bs.data[n]? =some bs[n]:=by
      rw[Array.getElem?_eq_getElem (show n<bs.data.size from hlt)];rfl
     rw[h2] at hb;cases hb;rfl
    exact ⟨_,by simp[Instr.index,asIntOf,az ht,this],.int _ _⟩
  ·simp at h
theorem zV {t:TypeId} {cs:List AV} {x':Value} {f:Nat} {fd:Field} {v:AV} (hx:Rep w I α (.agg cs) x') (hf:iE P t f=some fd) (h:bU P fd.type cs fd.offset=some v):
  ∃v',(Instr.field t x' f).run P w= .ok v' w∧Rep w I α v v':=by
 obtain ⟨fs,ht,hf⟩:=uH hf
 obtain ⟨cs',rfl,hcs⟩:=Rep.agg_iff.1 hx
 obtain ⟨v',h1,h2⟩:=hcs.part (P:=P) h
 exact ⟨v',by simp[Instr.field,az ht,hf,asAgg];simpa using h1,h2⟩
theorem zW {x:AV} {x':Value} {xt t:TypeId} {ok:Bool} {v:AV} (hx:Rep w I α x x') (h:qP P x t ok=some v):
  ∃v',(Instr.typeAssert x' xt t ok).run P w= .ok v' w∧Rep w I α v v':=by
 unfold qP at h
 split at h
 ·simp at h
 ·rename_i d hni ht
  have zero:∀z,cJ P t=some z→∃z',(zeroValue t).run P w= .ok z' w∧Rep w I α (.tuple [z,.bool false]) (.tuple #[z',.bool false]):=fun z hz=>by
   obtain ⟨i,z',h1,h2,h3⟩:=eV hz
   exact ⟨z',eW h1 h2,Rep.tuple_iff.2 ⟨_,rfl,.cons (dY h3) (.cons (.bool _) .nil)⟩⟩
  split at h
  ·rename_i t' y
   cases hx with
   | iface _ _ y' hy=>
    by_cases e:t'=t
    ·subst e
     simp only[if_true,Option.some.injEq] at h
     subst h
     cases ok with
     |true=>
      refine ⟨.tuple #[y',.bool true], ?_,Rep.tuple_iff.2 ⟨_,rfl,.cons hy (.cons (.bool _) .nil)⟩⟩
      cases d<;>first|(exact (hni _ rfl).elim)|simp[Instr.typeAssert,az ht]
     |false=>
      refine ⟨y', ?_,hy⟩
      cases d<;>first|(exact (hni _ rfl).elim)|simp[Instr.typeAssert,az ht]
    ·rw[if_neg e] at h
     split at h
     ·rename_i hok
      simp only[Option.map_eq_some_iff] at h
      obtain ⟨z,hz,rfl⟩:=h
      obtain ⟨z',h1,h2⟩:=zero z hz
      refine ⟨_, ?_,h2⟩
      cases d<;>first|(exact (hni _ rfl).elim)|simp[Instr.typeAssert,az ht,e,hok,h1]
     ·simp at h
  ·split at h
   ·rename_i hok
    simp only[Option.map_eq_some_iff] at h
    obtain ⟨z,hz,rfl⟩:=h
    cases hx
    obtain ⟨z',h1,h2⟩:=zero z hz
    refine ⟨_, ?_,h2⟩
    cases d<;>first|(exact (hni _ rfl).elim)|simp[Instr.typeAssert,az ht,hok,h1]
   ·simp at h
  ·simp at h
 ·simp at h
theorem zX {w':World} {I':Nat→Prop} {α':Nat→Option Nat} {b:Nat} {c:Array Value} {e:TypeId} {fr:Nat × Nat} {l:List AV} (h:w'.heap[b]? =some (.cells c e fr)) (hl:RepL w' I' α' l c.toList):
  Row w' I' α' b 0 l:=by
 intro j x hx
 obtain ⟨y,h1,h2⟩:=hl.get hx
 refine ⟨y, ?_,h2⟩
 rw[Nat.zero_add]
 simp only[World.cell?,h]
 simpa using h1
theorem q9 {w':World} {I':Nat→Prop} {α':Nat→Option Nat} {b:Nat} {c:Array Value} {e:TypeId} {l:List AV} (h:w'.heap[b]? =some (.cells c e (0,0))) (hl:RepL w' I' α' l c.toList):
  BRel w' I' α' b (.cells l):=by
 have hc:l.length=c.size:=by have:=hl.1;simpa using this
 exact ⟨c,e,h,by omega,by rw[hc,←Array.length_toList,List.take_length];exact hl⟩
theorem uI {t:TypeId} {x:AV} {x':Value} {s:Sem Value} (c:Ctx P G call w I α H rid nx) (hx:Rep w I α x x')
  (hs:s.run P w= .ok (.pointer (some ⟨w.heap.size,0,none⟩)) {w with heap:=w.heap.push (.cells x'.cells t)}):
  bO P G call w I α H rid nx s (.new (.cells x.cells) fun id=> .ptr id 0):=by
 refine lZ c (w':={w with heap:=w.heap.push (.cells x'.cells t)}) (by rw[hs];rfl) rfl (fun α' hα rel=> ?_) (fun α' hα=> .ptr _ _ _ hα)
 refine q9 (c:=x'.cells) (e:=t) (by simp) ?_
 have ev:Ev w I α H {w with heap:=w.heap.push (.cells x'.cells t)} I α H:=fy rfl I (fun _ h=>h) (fun _ h=> .inl h)
 have:=hx.cells.ev c.rel ev
 exact ⟨this.1,fun i a b h1 h2=>(this.2 i a b h1 h2).mono (fun _ h=>h) hα (fun _ _ _=>rfl) (fun _ _ _=>rfl)⟩
theorem zY {t:TypeId} {z:AV} (c:Ctx P G call w I α H rid nx) (hz:cJ P t=some z):
  bO P G call w I α H rid nx (Instr.alloc t true (.tuple #[])) (.new (.cells z.cells) fun id=> .ptr id 0):=by
 obtain ⟨i,v,h1,h2,h3⟩:=eV hz
 exact uI (t:=t) c (dY h3) (by simp[Instr.alloc,eW h1 h2,newVar,newRow])
end
end Go.Proofs.Abs
/- Stores; rows as sources; append. -/
namespace Go.Proofs.Abs
open Go
theorem n4:∀ {l:List AV},be l=true→∀a∈l,a.one=true
 |[],_,_,h=>by cases h
 |x::t,h,a,ha=>by
  simp only[be,Bool.and_eq_true] at h
  rcases List.mem_cons.1 ha with rfl|ha
  ·exact h.1
  ·exact n4 h.2 a ha
theorem uJ:∀ {sz:Nat} {l:List AV},bi sz l=true→∀a∈l,a.cells.length=sz
 |_,[],_,_,h=>by cases h
 |sz,x::t,h,a,ha=>by
  simp only[bi,Bool.and_eq_true] at h
  rcases List.mem_cons.1 ha with rfl|ha
  ·have:=beq_iff.1 h.1;rwa [ap] at this
  ·exact uJ h.2 a ha
theorem ga:∀ {sz:Nat} {l:List AV},(∀a∈l,a.cells.length=sz)→(flat l).length=l.length*sz
 |_,[],_=>by simp[flat]
 |sz,x::t,h=>by
  simp only[flat,List.length_append,List.length_cons]
  rw[h x (by simp),ga (fun a ha=>h a (by simp[ha])),Nat.add_mul];omega
theorem rc:∀ {sz:Nat} {l:List AV},0<sz→(∀a∈l,a.cells.length=sz)→∀ (k:Nat) x,(flat l)[k]? =some x→∃e,l[k/sz]? =some e∧e.cells[k%sz]? =some x
 |_,[],_,_,k,x,h=>by simp[flat] at h
 | sz,y::t,hp,hs,k,x,h=>by
  have hy:=hs y (by simp)
  simp only[flat] at h
  by_cases hk:k<sz
  ·rw[List.getElem?_append_left (by omega)] at h
   exact ⟨y,by simp[Nat.div_eq_of_lt hk],by rw[Nat.mod_eq_of_lt hk];exact h⟩
  ·have hk:=Nat.le_of_not_lt hk
   rw[List.getElem?_append_right (by omega),hy] at h
   obtain ⟨e,h1,h2⟩:=rc hp (fun a ha=>hs a (by simp[ha])) (k-sz) x h
   have e1:k/sz=(k-sz)/sz+1:=by rw[Nat.div_eq k sz,if_pos ⟨hp,hk⟩]
   have e2:k%sz=(k-sz)%sz:=Nat.mod_eq_sub_mod hk
   exact ⟨e,by rw[e1];simpa using h1,by rw[e2];exact h2⟩
section
variable {P:Program} {G:ax} {call:aB} {w:World} {I:Nat→Prop} {α:Nat→Option Nat} {H:aa} {rid nx:Nat}
theorem RepL.take {a:List AV} {v:List Value} (h:RepL w I α a v) (n:Nat):RepL w I α (a.take n) (v.take n):=
 ⟨by simp[h.1],fun i x y h1 h2=>by
  by_cases hi:i<n
  ·rw[List.getElem?_take_of_lt hi] at h1 h2;exact h.2 i x y h1 h2
  ·rw[List.getElem?_eq_none (by simp;omega)] at h1;cases h1⟩
theorem RepL.drop {a:List AV} {v:List Value} (h:RepL w I α a v) (n:Nat):RepL w I α (a.drop n) (v.drop n):=
 ⟨by simp[h.1],fun i x y h1 h2=>by
  rw[List.getElem?_drop] at h1 h2;exact h.2 _ x y h1 h2⟩
theorem uK {w':World} (h:w'.heap=w.heap) (a:Addr):w'.cell? a=w.cell? a:=by simp[World.cell?,h]
theorem uL {w':World} {α':Nat→Option Nat} {b:Nat} {c:Array Value} {e:TypeId} {l cs l':List AV} {vs:List Value} {o:Nat} (hl:l.length≤c.size) (hlc:RepL w' I α' l (c.toList.take l.length))
  (hs:splice l o cs=some l') (hcs:RepL w' I α' cs vs) (hw:w'.heap[b]? =some (.cells (c.toList.take o++vs++c.toList.drop (o+vs.length)).toArray e (0,0))):BRel w' I α' b (.cells l'):=by
 obtain ⟨e1,e2⟩:=eU _ _ _ _ hs
 have hlen:=zJ hs
 refine ⟨_,e,hw, ?_, ?_⟩
 ·rw[hlen]
  have hv:=hcs.1
  rcases e2 with e2|e2
  ·subst e2;simp at hv;have:vs=[]:=List.eq_nil_of_length_eq_zero hv.symm;subst this;simpa using hl
  ·simp;omega
 ·rw[hlen]
  have hv:=hcs.1
  rcases e2 with e2|e2
  ·subst e2
   have:vs=[]:=List.eq_nil_of_length_eq_zero (by simpa using hv.symm)
   subst this
   simp only[List.append_nil,List.length_nil,Nat.add_zero,List.take_append_drop] at e1⊢
   rw[e1];exact hlc
  ·have k1:=hlc.take o
   have k2:=hlc.drop (o+cs.length)
   have k3:=(k1.append hcs).append k2
   rw[e1]
   refine ⟨by simp;omega,fun i x y h1 h2=>k3.2 i x y h1 ?_⟩
   rw[←h2]
   have hi:i<l.length:=by
    rcases Nat.lt_or_ge i l.length with h'|h'
    ·exact h'
    ·rw[←e1] at h1;rw[List.getElem?_eq_none (by omega)] at h1;cases h1
   simp only[List.take_take]
   rw[List.getElem?_take_of_lt hi]
   have ho:min o l.length=o:=by omega
   rw[ho]
   have hoc:min o c.size=o:=by omega
   by_cases h5:i<o+vs.length
   ·have L:∀ (A C:List Value),i<A.length→(A++C)[i]? =A[i]? :=fun A C h=>List.getElem?_append_left h
    exact (L (List.take o c.toList++vs) _ (by simp[hoc];omega)).trans (L (List.take o c.toList++vs) _ (by simp[hoc];omega)).symm
   ·have R:∀ (A C:List Value),A.length≤i→(A++C)[i]? =C[i-A.length]? :=fun A C h=>List.getElem?_append_right h
    refine (R (List.take o c.toList++vs) _ (by simp[hoc];omega)).trans (Eq.trans ?_ (R (List.take o c.toList++vs) _ (by simp[hoc];omega)).symm)
    simp only[List.length_append,List.length_take,Array.length_toList]
    rw[List.getElem?_drop,List.getElem?_drop,List.getElem?_take_of_lt (by omega)]
    congr 1
    omega
theorem re {b id o:Nat} {c:Array Value} {e:TypeId} {l cs l':List AV} {vs:List Value} {v:AV} {v':Value} (cx:Ctx P G call w I α H rid nx) (hg:hget H id=some (.cells l)) (hα:α id=some b)
  (hB:w.heap[b]? =some (.cells c e (0,0))) (hl:l.length≤c.size) (hlc:RepL w I α l (c.toList.take l.length)) (hs:splice l o cs=some l') (hcs:RepL w I α cs vs)
  (hsz:o+vs.length≤c.size)
  (hv:∀w',Rel G w' I α (aK H id)→Ev w I α H w' I α (aK H id)→Rep w' I α v v'):
  Post G w I α H rid nx v (aP H id (.cells l')) nx v' (w.setRow b (c.toList.take o++vs++c.toList.drop (o+vs.length)).toArray):=by
 refine iT cx hg hα (by simp) (fun k hk=>setRow_other w b k _ hk) ?_ (fun rel ev=> ?_) (fun rel ev=>hv _ rel ev)
 ·simp only[World.shape?,setRow_heap w b c _ e _ hB,hB]
  simp;omega
 ·exact uL hl (hlc.ev cx.rel ev) hs (hcs.ev cx.rel ev) (setRow_heap w b c _ e _ hB)
theorem zZ {t:TypeId} {x y:AV} {x' y':Value} {e:Eff} (c:Ctx P G call w I α H rid nx) (hx:Rep w I α x x') (hy:Rep w I α y y') (h:iC P t x y=some e):
  n3 P G call w I α H rid nx (Instr.storeAt t x' y') e:=by
 unfold iC at h
 split at h
 ·rename_i id off
  split at h
  ·rename_i n hn
   split at h
   ·rename_i hc
    simp only[Bool.and_eq_true] at hc
    have hlen:y.cells.length=n:=by have:=beq_iff.1 hc.1;rwa [ap] at this
    simp only[Option.some.injEq] at h;subst h
    cases hx with
    | ptr _ _ b hb=>
     refine jS c fun blk b' blk' v hg hα hB hk=> ?_
     rw[hb] at hα;cases hα
     split at hk
     ·rename_i l
      simp only[Option.map_eq_some_iff,Prod.mk.injEq] at hk
      obtain ⟨l',hs,rfl,rfl⟩:=hk
      obtain ⟨cc,ee,h1,h2,h3⟩:=hB
      have hcs:=hy.cells
      have hvs:y'.cells.size=n:=by rw[←hlen,←Array.length_toList];exact hcs.1.symm
      have hone:∀u∈y'.cells.toList,u.oneCell'=true:=fun u hu=>by
       obtain ⟨i,hi⟩:=List.getElem?_of_mem hu
       have hi2:i<y.cells.length:=by
        rw[hcs.1]
        rcases Nat.lt_or_ge i y'.cells.toList.length with h'|h'
        ·exact h'
        ·rw[List.getElem?_eq_none h'] at hi;cases hi
       exact (hcs.2 i y.cells[i] u (by simp[hi2]) hi).one (n4 hc.2 _ (List.getElem_mem hi2))
      obtain ⟨_,e2⟩:=eU _ _ _ _ hs
      by_cases hz:y.cells=[]
      ·have hz':y'.cells.toList=[]:=by have:=hcs.1;rw[hz] at this;exact List.eq_nil_of_length_eq_zero (by simpa using this.symm)
       have hn0:n=0:=by rw[←hlen,hz];rfl
       have hrun:(Instr.storeAt t (.pointer (some ⟨b,off,none⟩)) y').run P w= .ok () w:=by
        simp[Instr.storeAt,Instr.sureAddr,storeVar,bW hn,hvs,hz',storeCells]
       rw[hrun]
       have hl':l'=l:=by
        obtain ⟨e1,_⟩:=eU _ _ _ _ hs
        rw[e1,hz];simp
       subst hl'
       have hw:w=w.setRow b cc:=(setRow_self w b cc ee _ h1).symm
       refine iT (w':=w) c hg hb rfl (fun _ _=>rfl) rfl (fun _ _=>⟨cc,ee,h1,h2,h3⟩) (fun _ _=>Rep.tuple_iff.2 ⟨_,rfl,.nil⟩)
      ·have hfit:off+y'.cells.toList.length≤cc.size:=by
        rcases e2 with e2|e2
        ·exact absurd e2 hz
        ·rw[←hcs.1];omega
       have hrun:(Instr.storeAt t (.pointer (some ⟨b,off,none⟩)) y').run P w= .ok () (w.setRow b (cc.toList.take off++y'.cells.toList++cc.toList.drop (off+y'.cells.toList.length)).toArray):=by
        have:=run_storeCells_at P b off ee y'.cells.toList 0 cc w h1 (by simpa using hfit) hone
        simp only[Nat.add_zero] at this
        simp only[Instr.storeAt,Instr.sureAddr,storeVar,Sem.run_bind,Sem.run_pure,Result.andThen_ok,bW hn,hvs]
        rw[if_neg (by simp)]
        simpa using this
       rw[hrun]
       exact re c hg hb h1 h2 h3 hs hcs hfit (fun _ _ _=>Rep.tuple_iff.2 ⟨_,rfl,.nil⟩)
     ·simp at hk
   ·simp at h
  ·simp at h
 ·simp at h
theorem uM {w':World} {b off n n' sz:Nat} {f:Nat→Value} (hc:∀j,j<n*sz→w.cell? ⟨b,off+j,none⟩=some (f j)) (hn:n'≤n) (hw:w'.heap=w.heap):
  (loadCells ⟨b,off,none⟩ (n'*sz)).run P w'= .ok (((List.range (n*sz)).map f).take (n'*sz)).toArray w':=by
 have hle:n'*sz≤n*sz:=Nat.mul_le_mul_right _ hn
 rw[run_loadCells w' _ _ f (fun j hj=>by rw[add_lit,uK hw];exact hc j (by omega))]
 congr 2
 rw[←List.map_take,List.take_range,Nat.min_eq_left hle]
theorem fsl_flat {full:Bool} {es:List AV} {x':Value} {sz:Nat} (hx:Rep w I α (.fsl full es) x') (hs:bi sz es=true):
  ∃a cap vs,x'= .slice a es.length cap∧es.length≤cap∧(full=true→cap=es.length)∧RepL w I α (flat es) vs∧vs.length=es.length*sz∧
   ∀n' w',n'≤es.length→w'.heap=w.heap→(Builtin.firstCells sz n' x').run P w'= .ok (vs.take (n'*sz)).toArray w':=by
 have hs':=uJ hs
 cases hx with
 | fsl _ _ a len cap sz' b base g hl hc hf ha hI hsz hg hr=>
  subst hl
  by_cases hz:es.length*sz=0
  ·refine ⟨a,cap,[],rfl,hc,hf, ?_,by simpa using hz.symm,fun n' w' hn hw'=> ?_⟩
   ·have:flat es=[]:=List.eq_nil_of_length_eq_zero (by rw[ga hs'];exact hz)
    rw[this];exact .nil
   ·cases a with
    |none=>simp[Builtin.firstCells]
    | some a=>
     have:n'*sz=0:=by
      have:=Nat.mul_le_mul_right sz hn;omega
     simp[Builtin.firstCells,this,loadCells,loadCellsFrom]
  ·have hsz0:0<sz:=Nat.pos_of_ne_zero (fun e=>hz (by simp[e]))
   have hne:es≠[]:=fun e=>hz (by simp[e])
   have hsame:sz'=sz:=by
    obtain ⟨x,hx⟩:=List.exists_mem_of_ne_nil es hne
    rw[←hsz x hx,hs' x hx]
   subst hsame
   obtain rfl:=nS rfl hc ha hne
   have hget:∀k,k<es.length*sz'→∃x y,(flat es)[k]? =some x∧w.cell? ⟨b,base+k,none⟩=some y∧Rep w I α x y:=fun k hk=>by
    have hlt:k<(flat es).length:=by rw[ga hs'];exact hk
    obtain ⟨el,h1,h2⟩:=rc hsz0 hs' k (flat es)[k] (by simp[hlt])
    refine ⟨(flat es)[k],g (k/sz') (k%sz'),by simp[hlt], ?_,hr _ _ _ _ h1 h2⟩
    have:=hg _ _ _ _ h1 h2
    rwa [show base+k/sz'*sz'+k%sz'=base+k by rw[Nat.add_assoc,Nat.div_add_mod']] at this
   let f:Nat→Value:=fun k=>(w.cell? ⟨b,base+k,none⟩).getD undef
   refine ⟨_,cap,(List.range (es.length*sz')).map f,rfl,hc,hf,⟨by simp[ga hs'],fun i x y h1 h2=> ?_⟩,by simp,fun n' w' hn hw'=> ?_⟩
   ·have hi:i<es.length*sz':=by
     rcases Nat.lt_or_ge i (es.length*sz') with h'|h'
     ·exact h'
     ·rw[List.getElem?_eq_none (by rw[ga hs'];exact h')] at h1;cases h1
    obtain ⟨x',y',e1,e2,hrr⟩:=hget i hi
    rw[e1] at h1;cases h1
    simp[hi,f,e2] at h2
    subst h2;exact hrr
   ·simp only[Builtin.firstCells]
    exact uM (fun j hj=>by
     obtain ⟨_,y',_,e2,_⟩:=hget j hj
     simp[f,e2]) hn hw'
theorem rf:∀ (s:List UInt8),RepL w I α (aj s) (s.map fun b=> .int .u8 b.toNat)
 |[]=> .nil
 |_::t=> .cons (.int _ _) (rf t)
theorem n5 {m:Result Next} {sz:Nat} {x:AV} {x':Value} {k:Nat→List AV→Option Eff} {e:Eff} (c:Ctx P G call w I α H rid nx) (hx:Rep w I α x x') (h:dU sz x k=some e)
  (hk:∀n cs vs e',k n cs=some e'→RepL w I α cs vs→vs.length=n*sz→(Builtin.lenOf x').run P w= .ok n w→
   (∀n' w',n'≤n→w'.heap=w.heap→(Builtin.firstCells sz n' x').run P w'= .ok (vs.take (n'*sz)).toArray w')→b7 P G call w I α H rid nx m e'):
  b7 P G call w I α H rid nx m e:=by
 unfold dU at h
 split at h
 ·rename_i full es
  split at h
  ·rename_i hs
   obtain ⟨a,cap,vs,rfl,hc,hf,h1,h2,h3⟩:=fsl_flat (P:=P) hx hs
   rw[ap] at h
   exact hk _ _ _ _ h h1 h2 (by simp[Builtin.lenOf]) h3
  ·simp at h
 ·cases hx
  exact hk _ _ [] _ h .nil (by simp) (by simp[Builtin.lenOf]) (fun n' w' hn _=>by simp[Builtin.firstCells])
 ·cases hx
  refine hk _ _ [] _ h .nil (by simp) (by simp[Builtin.lenOf]) (fun n' w' hn _=> ?_)
  obtain rfl:n'=0:=Nat.le_zero.1 hn
  simp[Builtin.firstCells,loadCells,loadCellsFrom]
 ·rename_i s
  split at h
  ·rename_i hs
   have hs:sz=1:=beq_iff.1 hs
   subst hs
   cases hx with
   |str _ b hb=>
    rw[ap] at h
    have hsz:b.size=s.length:=by rw[←hb];exact Array.length_toList.symm
    refine hk _ _ _ _ h (rf s) (by simp) (by simp[Builtin.lenOf,hsz]) (fun n' w' hn _=> ?_)
    simp only[Builtin.firstCells,Sem.run_pure,Nat.mul_one]
    congr 1
    apply Array.ext'
    simp only[Array.toList_map]
    rw[←List.map_take]
    congr 1
    rw[←hb,ByteArray.data_extract]
    simp[List.extract_eq_take_drop]
  ·simp at h
 ·rename_i own id off len sz'
  simp only[Option.some.injEq] at h;subst h
  cases hx with
  | rsl _ _ _ _ _ cap b hb hcap ho=>
   refine ez c fun blk b' e' hg hα hB hkk=> ?_
   rw[hb] at hα;cases hα
   split at hkk
   ·rename_i l
    split at hkk
    ·rename_i cs hcs
     have row:=hB.row
     obtain ⟨e1,e2,e3⟩:=gM _ _ _ _ hcs
     have hget:∀j,j<len*sz→∃x y,cs[j]? =some x∧w.cell? ⟨b,off+j,none⟩=some y∧Rep w I α x y:=fun j hj=>by
      have hlt:off+j<l.length:=by omega
      obtain ⟨y,h1,h2⟩:=row (off+j) l[off+j] (by simp[hlt])
      rw[Nat.zero_add] at h1
      refine ⟨l[off+j],y, ?_,h1,h2⟩
      rw[e1,List.getElem?_take_of_lt hj,List.getElem?_drop];simp[hlt]
     let f:Nat→Value:=fun k=>(w.cell? ⟨b,off+k,none⟩).getD undef
     refine hk _ _ ((List.range (len*sz)).map f) _ hkk ⟨by simp[e2],fun i x y h1 h2=> ?_⟩ (by simp) (by simp[Builtin.lenOf]) (fun n' w' hn hw'=> ?_)
     ·have hi:i<len*sz:=by
       rcases Nat.lt_or_ge i (len*sz) with h'|h'
       ·exact h'
       ·rw[List.getElem?_eq_none (by omega)] at h1;cases h1
      obtain ⟨x',y',k1,k2,hrr⟩:=hget i hi
      rw[k1] at h1;cases h1
      simp[hi,f,k2] at h2
      subst h2;exact hrr
     ·simp only[Builtin.firstCells]
      exact uM (fun j hj=>by
       obtain ⟨_,y',_,k2,_⟩:=hget j hj
       simp[f,k2]) hn hw'
    ·simp at hkk
   ·simp at hkk
 ·simp at h
end
end Go.Proofs.Abs
