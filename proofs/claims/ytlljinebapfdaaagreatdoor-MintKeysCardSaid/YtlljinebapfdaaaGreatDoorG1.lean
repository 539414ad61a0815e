import Derived.Calls
import Derived.Orders
import Derived.Laws.AppendOwn
import Derived.Laws.CopyOwn
import Derived.WalkKit
import Derived.ChangeKeysEq
import Derived.Laws.StructEq
import Derived.Laws.Tables
namespace Go.Proofs.Abs
open Go
noncomputable section
inductive AV where
 |bool (b:Bool)
 |int (k:IntKind) (n:Int)
 |str (s:List UInt8)
 |ptr (id off:Nat)
 |nilp
 |fptr (cells:List AV) (off:Nat)
 |gptr (g off:Nat)
 |fsl (full:Bool) (es:List AV)
 |rsl (own:Bool) (id off len sz:Nat)
 |nilsl
 |nesl
 |map (id:Nat)
 |nilmap
 |func (fn:Fn) (first captured:List AV)
 |nilFunc
 |iface (t:TypeId) (v:AV)
 |nilIface
 |agg (cells:List AV)
 |tuple (vs:List AV)
 deriving Inhabited
def dW:AV:= .tuple []
def AV.cells:AV→List AV
 | .agg cs=>cs
 |v=>[v]
def AV.one:AV→Bool
 | .agg _| .tuple _=>false
 |_=>true
inductive Blk where
 |cells (l:List AV)
 |siter (s:List UInt8) (pos:Nat)
 |mapb (cl:Nat) (st:List Nat) (es:List (AV × AV))
 |miter (m since:Nat) (seen:List Nat) (last:Nat)
 deriving Inhabited
abbrev ab:=List (Nat × Option Blk)
def hget:ab→Nat→Option Blk
 |[],_=>none
 |(i,b)::t,id=>match Nat.beq i id with
  |true=>b
  |false=>hget t id
def bU:ab→Nat→Option Blk→ab
 |[],id,b=>[(id,b)]
 | (i,c)::t,id,b=>
  match Nat.beq i id with
  |true=>(id,b)::t
  |false=>match Nat.blt i id with
   |true=>(id,b)::(i,c)::t
   |false=>(i,c)::bU t id b
def aY (H:ab) (id:Nat) (b:Blk):ab:=bU H id (some b)
def aZ (H:ab) (id:Nat):ab:=bU H id none
inductive Eff where
 |val (v:AV)
 |skip
 |read (id:Nat) (k:Blk→Option Eff)
 |upd (id:Nat) (k:Blk→Option (Blk × AV))
 |new (b:Blk) (k:Nat→AV)
 |repl (id:Nat) (k:Blk→Option (Blk × (Nat→AV)))
 |shut (id:Nat) (k:Blk→Option AV)
 |call (f:FuncId) (args:List AV)
def cg {α:Type}:List α→Nat→Option α
 |[],_=>none
 |a::_,0=>some a
 |_::t,n+1=>cg t n
def mM {α:Type}:List α→Nat→α→List α
 |[],_,_=>[]
 |_::t,0,x=>x::t
 |a::t,n+1,x=>a::mM t n x
inductive Tr where
 |tip
 |node (v:Option AV) (l r:Tr)
 deriving Inhabited
-- BEGIN TREE
noncomputable def Tr.get (t:Tr):Nat→Option AV:=
 Tr.rec (fun _=>none) (fun v _ _ gl gr k=>
  Bool.rec (Bool.rec (gr (k/2-1)) (gl (k/2)) (Nat.beq (k%2) 1)) v (Nat.beq k 0)) t
noncomputable def Tr.set (d:Nat):Tr→Nat→AV→Tr:=
 Nat.rec (fun t _ _=>t) (fun _ ih t k x=>
  Tr.rec
   (Bool.rec (Bool.rec (.node none .tip (ih .tip (k/2-1) x)) (.node none (ih .tip (k/2) x) .tip) (Nat.beq (k%2) 1)) (.node (some x) .tip .tip) (Nat.beq k 0))
   (fun v l r _ _=>Bool.rec (Bool.rec (.node v l (ih r (k/2-1) x)) (.node v (ih l (k/2) x) r) (Nat.beq (k%2) 1)) (.node (some x) l r) (Nat.beq k 0)) t) d
-- END TREE
def ac {α:Type}:List α→Nat
 |[]=>0
 |_::t=>ac t+1
def splice:List AV→Nat→List AV→Option (List AV)
 |l,_,[]=>some l
 |[],_,_::_=>none
 |_::t,0,v::vs=>(splice t 0 vs).map (v:: ·)
 |a::t,n+1,vs=>(splice t n vs).map (a:: ·)
def chunk:List AV→Nat→Nat→Option (List AV)
 |_,_,0=>some []
 |[],_,_+1=>none
 |a::t,0,n+1=>(chunk t 0 n).map (a:: ·)
 |_::t,o+1,n+1=>chunk t o (n+1)
def oT:Value→Option AV
 | .bool b=>some (.bool b)
 | .int k n=>some (.int k n)
 | .string s=>some (.str s.data.toList)
 | .pointer none=>some .nilp
 | .slice none 0 0=>some .nilsl
 | .map none=>some .nilmap
 | .nilFunc=>some .nilFunc
 | .nilIface=>some .nilIface
 |_=>none
def mN:List Value→Option (List AV)
 |[]=>some []
 | v::vs=>match oT v with
  |some a=>match mN vs with
   |some l=>some (a::l)
   |none=>none
  |none=>none
def ofValue:Value→Option AV
 | .agg cs=>match mN cs.toList with
  |some l=>some (.agg l)
  |none=>none
 | .tuple vs=>match vs.toList with
  |[]=>some (.tuple [])
  |_=>none
 |v=>oT v
def az (k:IntKind) (n:Int):Int:=
 match k,n with
 | .i64,.ofNat m=>match Nat.ble m 9223372036854775807 with
  |true=> .ofNat m
  |false=>k.wrap n
 | .i64,.negSucc m=>match Nat.ble m 9223372036854775807 with
  |true=> .negSucc m
  |false=>k.wrap n
 | .u8,.ofNat m=>match Nat.ble m 255 with
  |true=> .ofNat m
  |false=>k.wrap n
 | .u32,.ofNat m=>match Nat.ble m 4294967295 with
  |true=> .ofNat m
  |false=>k.wrap n
 | .u64,.ofNat m=>match Nat.ble m 18446744073709551615 with
  |true=> .ofNat m
  |false=>k.wrap n
 |k,n=>k.wrap n
def ag:List UInt8→List UInt8→Bool
 |[],[]=>true
 |a::x,b::y=>match Nat.beq a.toNat b.toNat with
  |true=>ag x y
  |false=>false
 |_,_=>false
def eM:List UInt8→List UInt8→Bool
 |_,[]=>false
 |[],_::_=>true
 | a::x,b::y=>match Nat.blt a.toNat b.toNat with
  |true=>true
  |false=>match Nat.beq a.toNat b.toNat with
   |true=>eM x y
   |false=>false
def ah:Int→Int→Bool
 | .ofNat a,.ofNat b=>Nat.beq a b
 | .negSucc a,.negSucc b=>Nat.beq a b
 |_,_=>false
def au:Int→Int→Bool
 | .ofNat a,.ofNat b=>Nat.blt a b
 | .negSucc a,.negSucc b=>Nat.blt b a
 | .negSucc _,.ofNat _=>true
 | .ofNat _,.negSucc _=>false
section
variable (P:Program)
def bC (t:TypeId):Option Nat:=(P.info? t).map (·.size)
def eg (t:TypeId):Option Bool:=(P.underlying t).map fun
 | .struct _| .array _ _=>true
 |_=>false
def dp (t:TypeId):Option AV:=do ofValue (←(←P.info? t).zero)
def ch (t:TypeId) (cs:List AV) (off:Nat):Option AV:=
 match eg P t with
 |some true=>match bC P t with
  |some n=>(chunk cs off n).map .agg
  |none=>none
 |some false=>cg cs off
 |none=>none
def bu:List AV→Bool
 |[]=>true
 |a::t=>a.one&&bu t
def eh (t:TypeId) (a:AV) (glob:Nat→Option (List AV)):Option Eff:=
 match a with
 | .ptr id off=>some<| .read id fun
  | .cells l=>(ch P t l off).map .val
  |_=>none
 | .fptr cs off=>(ch P t cs off).map .val
 | .gptr g off=>match glob g with
  |some l=>(ch P t l off).map .val
  |none=>none
 |_=>none
def jS (t:TypeId) (a v:AV):Option Eff:=
 match a with
 | .ptr id off=>match bC P t with
  | some n=>if Nat.beq (ac v.cells) n&&bu v.cells then
    some<| .upd id fun
     | .cells l=>(splice l off v.cells).map fun l'=>(.cells l',dW)
     |_=>none
   else none
  |none=>none
 |_=>none
def mO:AV→Option AV
 | .ptr i o=>some (.ptr i o)
 | .fptr c o=>some (.fptr c o)
 | .gptr g o=>some (.gptr g o)
 | .iface t v=>some (.iface t v)
 | .func (.func f) a b=>some (.func (.func f) a b)
 |_=>none
def g5 (eq:TypeId→AV→AV→Option Bool):List Field→List AV→List AV→Option Bool
 |[],_,_=>some true
 | f::fs,xs,ys=>
  match f.name== "_" with
  |true=>g5 eq fs xs ys
  | false=>match ch P f.type xs f.offset,ch P f.type ys f.offset with
   |some a,some b=>match eq f.type a b with
    |some true=>g5 eq fs xs ys
    |some false=>some false
    |none=>none
   |_,_=>none
def iY (eq:TypeId→AV→AV→Option Bool) (e:TypeId) (sz:Nat) (xs ys:List AV):List Nat→Option Bool
 |[]=>some true
 | i::is=>match ch P e xs (i*sz),ch P e ys (i*sz) with
  |some a,some b=>match eq e a b with
   |some true=>iY eq e sz xs ys is
   |some false=>some false
   |none=>none
  |_,_=>none
def c9:Nat→TypeId→AV→AV→Option Bool
 |0,_,_,_=>none
 | d +1,t,x,y=>
  match P.underlying t,x,y with
  |some .bool,.bool a,.bool b=>some (a==b)
  |some (.int _),.int k a,.int k' b=>if k=k' then some (ah a b) else none
  |some .string,.str a,.str b=>some (ag a b)
  |some (.struct fs),.agg xs,.agg ys=>if P.stoodInHeld t then none else g5 P (c9 d) fs.toList xs ys
  |some (.pointer _),.nilp,.nilp=>some true
  |some (.pointer _),.nilp,.ptr _ _=>some false
  |some (.pointer _),.ptr _ _,.nilp=>some false
  |some (.pointer _),.nilp,.fptr _ _=>some false
  |some (.pointer _),.fptr _ _,.nilp=>some false
  |some (.func _ _ _),.nilFunc,.nilFunc=>some true
  |some (.func _ _ _),.func _ _ _,.nilFunc=>some false
  |some (.func _ _ _),.nilFunc,.func _ _ _=>some false
  |some (.slice _),.nilsl,.nilsl=>some true
  |some (.slice _),.rsl _ _ _ _ _,.nilsl=>some false
  |some (.slice _),.nesl,.nilsl=>some false
  |some (.slice _),.fsl _ (_::_),.nilsl=>some false
  |some (.map _ _),.nilmap,.nilmap=>some true
  |some (.map _ _),.map _,.nilmap=>some false
  |some (.interface _),.nilIface,.nilIface=>some true
  |some (.interface _),.iface _ _,.nilIface=>some false
  |some (.interface _),.nilIface,.iface _ _=>some false
  |some (.array n e),.agg xs,.agg ys=>match bC P e with
   |some sz=>iY P (c9 d) e sz xs ys (List.range n)
   |none=>none
  | some (.interface _),.iface t1 a,.iface t2 b=>match Nat.beq t1 t2 with
   | true=>match P.info? t1 with
    |some i=>match i.comparable with
     |true=>c9 d t1 a b
     |false=>none
    |none=>none
   |false=>some false
  |_,_,_=>none
def kU:Operand→Bool
 | .const .nilIface=>true
 |_=>false
def aU (op:BinOp) (t:TypeId) (xo yo:Operand) (x y:AV):Option AV:=
 match op,x,y with
 | .shl,.int k a,.int _ b=>if au b 0 then none else some (.int k (az k (a*2^min b.toNat k.bits)))
 | .shr,.int k a,.int _ b=>if au b 0 then none else some (.int k (a.fdiv (2^min b.toNat k.bits)))
 |op,.int k a,.int k' b=>
  if k≠k' then none else
  match op with
  | .add=>some (.int k (az k (a+b)))
  | .sub=>some (.int k (az k (a-b)))
  | .mul=>some (.int k (az k (a*b)))
  | .quo=>if ah b 0 then none else some (.int k (az k (a.tdiv b)))
  | .rem=>if ah b 0 then none else some (.int k (a.tmod b))
  | .and=>some (.int k (az k (BitVec.ofInt k.bits a&&&BitVec.ofInt k.bits b).toNat))
  | .or=>some (.int k (az k (BitVec.ofInt k.bits a|||BitVec.ofInt k.bits b).toNat))
  | .xor=>some (.int k (az k (BitVec.ofInt k.bits a^^^BitVec.ofInt k.bits b).toNat))
  | .andNot=>some (.int k (az k (BitVec.ofInt k.bits a&&& ~~~ BitVec.ofInt k.bits b).toNat))
  | .eql=>some (.bool (ah a b))
  | .neq=>some (.bool (!ah a b))
  | .lss=>some (.bool (au a b))
  | .leq=>some (.bool (!au b a))
  | .gtr=>some (.bool (au b a))
  | .geq=>some (.bool (!au a b))
  |_=>none
 |op,.str a,.str b=>
  match op with
  | .add=>if Nat.ble (ac a+ac b) 9223372036854775807 then some (.str (a++b)) else none
  | .eql=>some (.bool (ag a b))
  | .neq=>some (.bool (!ag a b))
  | .lss=>some (.bool (eM a b))
  | .leq=>some (.bool (eM a b||ag a b))
  | .gtr=>some (.bool (!(eM a b||ag a b)))
  | .geq=>some (.bool (!eM a b))
  |_=>none
 | .eql,.agg a,.agg b=>if P.eqGuardType P.depth t then none else (c9 P 16 t (.agg a) (.agg b)).map .bool
 | .neq,.agg a,.agg b=>if P.eqGuardType P.depth t then none else (c9 P 16 t (.agg a) (.agg b)).map (.bool !·)
 | .eql,.nilIface,.nilIface=>if kU xo||kU yo then (c9 P 16 t x y).map .bool else none
 | .neq,.nilIface,.nilIface=>if kU xo||kU yo then (c9 P 16 t x y).map (.bool !·) else none
 | .eql,x,y=>(c9 P 16 t x y).map .bool
 | .neq,x,y=>(c9 P 16 t x y).map (.bool !·)
 |_,_,_=>none
def r4 (op:UnOp) (x:AV):Option AV:=
 match op,x with
 | .neg,.int k n=>some (.int k (az k (0-n)))
 | .xor,.int k n=>some (.int k (az k (BitVec.ofInt k.bits (if k.signed then-1 else k.max)^^^BitVec.ofInt k.bits n).toNat))
 | .not,.bool b=>some (.bool !b)
 |_,_=>none
def dh:List AV→Option (List UInt8)
 |[]=>some []
 | .int .u8 n::t=>(dh t).map (UInt8.ofNat n.toNat:: ·)
 |_=>none
def aj:List UInt8→List AV
 |[]=>[]
 |b::t=> .int .u8 (.ofNat b.toNat)::aj t
def iZ:Option (List UInt8)→Option Eff
 |some s=>some (.val (.str s))
 |none=>none
def jT (e:TypeId):Bool:=match P.underlying e with
 |some (.int .u8)=>true
 |_=>false
def oU (x:AV):Option Eff:=
 match x with
 | .fsl _ es=>iZ (dh es)
 | .nilsl=>some (.val (.str []))
 | .rsl _ id off len _=>some<| .read id fun
  | .cells l=>match chunk l off len with
   |some cs=>iZ (dh cs)
   |none=>none
  |_=>none
 |_=>none
def wW (x:AV):Option Eff:=
 match x with
 | .rsl true id 0 len 1=>some<| .shut id fun
  | .cells l=>match chunk l 0 len with
   |some cs=>match bu cs with
    |true=>some (.fsl false cs)
    |false=>none
   |none=>none
  |_=>none
 |_=>none
def ei (src dst:TypeId) (x:AV):Option Eff:=
 match P.underlying src,P.underlying dst,x with
 |some _,some (.int k),.int _ n=>some (.val (.int k (az k n)))
 |some _,some .string,.str s=>some (.val (.str s))
 |some _,some (.slice e),.str s=>match jT P e with
  |true=>some (.val (.fsl false (aj s)))
  |false=>none
 |some (.slice _),some (.slice e),x=>match decide (src=dst)&&jT P e with
  |true=>wW x
  |false=>none
 |some (.slice e),some .string,x=>match jT P e with
  |true=>oU x
  |false=>none
 |_,_,_=>none
def da (t:TypeId):Option TypeId:=match P.underlying t with
 |some (.slice e)=>some e
 |_=>none
def ej:AV→Option Nat
 | .int _ (.ofNat n)=>some n
 |_=>none
def flat:List AV→List AV
 |[]=>[]
 |e::t=>e.cells++flat t
def bV (z:AV):Nat→List AV
 |0=>[]
 |n+1=>z::bV z n
def mP (t:TypeId) (l c:AV):Option Eff:=
 match da P t,ej l,ej c with
 | some e,some l,some c=>match P.info? e,dp P e with
  |some i,some z=>
   match Nat.ble l c&&Nat.ble (i.bytes*c) 281474976710656&&Nat.ble c 9223372036854775807&&Nat.beq (ac z.cells) i.size&&Nat.blt 0 i.size with
   |true=>some (.new (.cells (flat (bV z c))) fun id=> .rsl true id 0 l i.size)
   |false=>none
  |_,_=>none
 |_,_,_=>none
def f4:Option AV→Option (Option Nat)
 |none=>some none
 |some v=>(ej v).map some
def r5 (es:List AV) (l h:Nat):Option (List AV):=chunk es l (h-l)
def mQ (sz:Nat):List AV→Bool
 |[]=>true
 |e::_=>Nat.beq (ac e.cells) sz
def r6 (t:TypeId) (s:List UInt8) (lo hi mx:Option Nat):Option Eff:=
 match P.underlying t with
 |some .string=>
  match mx.isNone&&Nat.ble (lo.getD 0) (hi.getD (ac s))&&Nat.ble (hi.getD (ac s)) (ac s) with
  |true=>some (.val (.str ((s.drop (lo.getD 0)).take (hi.getD (ac s)-lo.getD 0))))
  |false=>none
 |_=>none
def mR (full:Bool) (mx:Option Nat) (h n:Nat):Bool:=match mx with
 |some m=>Nat.beq m h
 |none=>full&&Nat.beq h n
def mS (own:Bool) (id off l h sz:Nat):AV:=match Nat.beq l 0 with
 |true=> .rsl own id off h sz
 |false=>match Nat.beq l h with
  |true=> .fsl false []
  |false=> .rsl own id (off+l*sz) (h-l) sz
def r7 (t:TypeId) (full:Bool) (es:List AV) (lo hi mx:Option Nat):Option Eff:=
 match da P t with
 | some e=>match bC P e with
  | some sz=>
   match mQ sz es&&Nat.ble (lo.getD 0) (hi.getD (ac es))&&Nat.ble (hi.getD (ac es)) (ac es)&&
     (match mx with|some m=>Nat.ble (hi.getD (ac es)) m&&Nat.ble m (ac es)&&hi.isSome|none=>true) with
   |true=>match r5 es (lo.getD 0) (hi.getD (ac es)) with
    |some es'=>some (.val (.fsl (mR full mx (hi.getD (ac es)) (ac es)) es'))
    |none=>none
   |false=>none
  |none=>none
 |none=>none
def r8 (t:TypeId) (own:Bool) (id off len sz':Nat) (lo hi mx:Option Nat):Option Eff:=
 match da P t with
 | some e=>match bC P e with
  | some sz=>
   match Nat.beq sz sz'&&Nat.ble (lo.getD 0) (hi.getD len)&&(match mx with|some m=>Nat.ble (hi.getD len) m&&Nat.ble m len&&hi.isSome|none=>true) with
   | true=>
    match Nat.ble (hi.getD len) len with
    |true=>some (.val (mS (own&&mx.isNone) id off (lo.getD 0) (hi.getD len) sz))
    | false=>match own&&Nat.blt 0 sz with
     | true=>some<| .read id fun
      | .cells c=>match Nat.ble (off+hi.getD len*sz) (ac c) with
       |true=>some (.val (mS (own&&mx.isNone) id off (lo.getD 0) (hi.getD len) sz))
       |false=>none
      |_=>none
     |false=>none
   |false=>none
  |none=>none
 |none=>none
def wX (t:TypeId) (id off:Nat) (lo hi mx:Option Nat):Option Eff:=
 match P.underlying t with
 | some (.array n e)=>match bC P e with
  | some sz=>
   match mx.isNone&&Nat.ble (lo.getD 0) (hi.getD n)&&Nat.ble (hi.getD n) n with
   |true=>match Nat.beq (lo.getD 0) (hi.getD n) with
    |true=>some (.val (.fsl false []))
    |false=>some (.val (.rsl false id (off+lo.getD 0*sz) (hi.getD n-lo.getD 0) sz))
   |false=>none
  |none=>none
 |_=>none
def wY (t:TypeId) (lo hi mx:Option Nat):Option Eff:=
 match da P t with
 | some e=>match bC P e with
  |some _=>match Nat.beq (lo.getD 0) 0&&Nat.beq (hi.getD 0) 0&&Nat.beq (mx.getD 0) 0&&(mx.isNone||hi.isSome) with
   |true=>some (.val .nilsl)
   |false=>none
  |none=>none
 |none=>none
def gI (t:TypeId) (x:AV) (lo hi mx:Option AV):Option Eff:=
 match f4 lo,f4 hi,f4 mx with
 |some lo,some hi,some mx=>match x with
  | .str s=>r6 P t s lo hi mx
  | .fsl full es=>r7 P t full es lo hi mx
  | .nilsl=>wY P t lo hi mx
  | .rsl own id off len sz'=>r8 P t own id off len sz' lo hi mx
  | .ptr id off=>wX P t id off lo hi mx
  |_=>none
 |_,_,_=>none
def jU (t:TypeId) (f:Nat):Option Field:=match P.underlying t with
 |some (.struct fs)=>fs[f]?
 |_=>none
def mT (t:TypeId) (x:AV) (f:Nat):Option AV:=
 match jU P t f with
 | some fd=>match bC P fd.type with
  |some (_+1)=>match x with
   | .ptr id off=>some (.ptr id (off+fd.offset))
   | .fptr cs off=>some (.fptr cs (off+fd.offset))
   | .gptr g off=>some (.gptr g (off+fd.offset))
   |_=>none
  |_=>none
 |none=>none
def r9 (t:TypeId) (x:AV):Option AV:=match P.underlying t,x with
 |some (.array n _),.rsl _ id off len _=>match Nat.ble n len with
  |true=>some (.ptr id off)
  |false=>none
 |some (.array n _),.fsl _ es=>match Nat.ble n (ac es)&&(Nat.blt 0 n&&bu es) with
  |true=>some (.fptr es 0)
  |false=>none
 |_,_=>none
def aQ (t:TypeId) (x i:AV):Option AV:=do
 let i←ej i
 match P.underlying t with
 | some (.array n e)=>
  let sz←bC P e
  if Nat.blt i n then
   match x with
   | .ptr id off=>some (.ptr id (off+i*sz))
   | .fptr cs off=>some (.fptr cs (off+i*sz))
   | .gptr g off=>some (.gptr g (off+i*sz))
   |_=>none
  else none
 | some (.slice e)=>
  let sz←bC P e
  match x with
  | .fsl _ es=>match cg es i with
   |some v=>if Nat.beq (ac v.cells) sz then some (.fptr v.cells 0) else none
   |none=>none
  | .rsl _ id off len sz'=>if Nat.blt i len&&Nat.beq sz sz' then some (.ptr id (off+i*sz)) else none
  |_=>none
 |_=>none
def cL (t:TypeId) (x i:AV):Option AV:=do
 let i←ej i
 match P.underlying t,x with
 |some (.array n e),.agg cs=>if Nat.blt i n then do ch P e cs (i*(←bC P e)) else none
 |some .string,.str s=>(cg s i).map fun b=> .int .u8 (.ofNat b.toNat)
 |_,_=>none
def f5 (place:Nat→Option (Nat × Nat)):List AV→List (Nat × AV)→Option (List AV)
 |cells,[]=>some cells
 | cells,(i,v)::rest=>
  match place i with
  | some (off,size)=>if Nat.beq (ac v.cells) size&&Nat.blt 0 size then
    match splice cells off v.cells with
    |some c=>f5 place c rest
    |none=>none
   else none
  |none=>none
def kV:List Field→Option (List (Nat × Nat))
 |[]=>some []
 | f::fs=>match bC P f.type with
  |some s=>match kV fs with
   |some l=>some ((f.offset,s)::l)
   |none=>none
  |none=>none
def jV:Option (List AV)→Option AV
 |some l=>some (.agg l)
 |none=>none
def mU (t:TypeId) (parts:List (Nat × AV)):Option AV:=
 match dp P t,P.underlying t with
 |some z,some (.struct fs)=>match kV P fs.toList with
  |some pl=>jV (f5 (cg pl) z.cells parts)
  |none=>none
 |some z,some (.array _ e)=>match bC P e with
  |some s=>jV (f5 (fun i=>some (i*s,s)) z.cells parts)
  |none=>none
 |_,_=>none
def jW (sz:Nat):List AV→List (Nat × AV)→Option (List AV)
 |es,[]=>some es
 |es,(i,v)::rest=>if Nat.beq (ac v.cells) sz&&Nat.blt i (ac es) then jW sz (mM es i v) rest else none
def mV:Option (List AV)→Option AV
 |some l=>some (.fsl true l)
 |none=>none
def mW (t:TypeId) (len:Nat) (parts:List (Nat × AV)):Option AV:=
 match da P t with
 | some e=>match bC P e,dp P e with
  |some sz,some z=>match Nat.ble (len*sz) 16777216&&Nat.beq (ac z.cells) sz&&Nat.blt 0 sz with
   |true=>mV (jW sz (bV z len) parts)
   |false=>none
  |_,_=>none
 |none=>none
def bT (sz:Nat):List AV→Bool
 |[]=>true
 |e::t=>Nat.beq (ac e.cells) sz&&bT sz t
def g6:List AV→AV
 |[.agg cs]=> .agg [.agg cs]
 |[v]=>v
 |cs=> .agg cs
def i3 (sz:Nat):Nat→List AV→Option (List AV)
 |0,_=>some []
 |n+1,l=>match chunk l 0 sz with
  |some c=>(i3 sz n (l.drop sz)).map (g6 c:: ·)
  |none=>none
def e9 (sz:Nat) (x:AV) (k:Nat→List AV→Option Eff):Option Eff:=
 match x with
 | .fsl _ es=>if bT sz es then k (ac es) (flat es) else none
 | .nilsl=>k 0 []
 | .nesl=>k 0 []
 | .str s=>if Nat.beq sz 1 then k (ac s) (aj s) else none
 | .rsl _ id off len _=>some<| .read id fun
  | .cells l=>match chunk l off (len*sz) with
   |some cs=>k len cs
   |none=>none
  |_=>none
 |_=>none
def i4 (xd:TypeDesc) (sz bytes:Nat) (z x:AV) (k:Nat→List AV→Option Eff):Option Eff:=
 match xd with
 | .slice _| .string=>e9 sz x k
 | .int _=>match x with
  | .int _ (.ofNat n)=>match Nat.ble n 9223372036854775807&&Nat.ble (n*bytes) 281474976710656 with
   |true=>k n (flat (bV z n))
   |false=>none
  |_=>none
 |_=>none
def jX (argTypes:Array TypeId) (s x:AV):Option Eff:=
 match argTypes[0]?,argTypes[1]? with
 | some st,some xt=>
  match P.underlying st,P.underlying xt with
  | some (.slice e),some xd=>
   match P.info? e,dp P e with
   | some i,some z=>
    if Nat.beq i.size 0||Nat.beq i.bytes 0|| !Nat.beq (ac z.cells) i.size then none else
    i4 xd i.size i.bytes z x fun n cs=>
     match s with
     | .nilsl=>if Nat.beq n 0 then some (.val .nilsl) else
       if Nat.ble (n*i.bytes) 140737488355328 then some (.new (.cells cs) fun id=> .rsl true id 0 n i.size) else none
     | .fsl true es=>if Nat.beq n 0 then some (.val (.fsl true es)) else
       if Nat.ble ((ac es+n)*i.bytes) 140737488355328&&bT i.size es then some (.new (.cells (flat es++cs)) fun id=> .rsl true id 0 (ac es+n) i.size) else none
     | .fsl false es=>if Nat.beq n 0 then some (.val (.fsl false es)) else none
     | .rsl true id 0 len sz=>
      if Nat.ble ((len+n)*i.bytes) 140737488355328&&bu cs&&Nat.beq sz i.size then
       some<| .repl id fun
        | .cells l=>
         if Nat.ble ((len+n)*i.size) (ac l) then
          match splice l (len*i.size) cs with
          |some l'=>some (.cells l',fun id'=> .rsl true id' 0 (len+n) i.size)
          |none=>none
         else if Nat.ble (len*i.size) (ac l) then
          some (.cells (l.take (len*i.size)++cs),fun id'=> .rsl true id' 0 (len+n) i.size)
         else none
        |_=>none
      else none
     |_=>none
   |_,_=>none
  |_,_=>none
 |_,_=>none
def g7 (argTypes:Array TypeId) (x:AV):Option Eff:=
 match argTypes[0]? with
 | some t=>match P.underlying t,x with
  |some .string,.str s=>some (.val (.int .i64 (.ofNat (ac s))))
  |some (.array n _),_=>some (.val (.int .i64 (.ofNat n)))
  |some (.slice _),.fsl _ es=>some (.val (.int .i64 (.ofNat (ac es))))
  |some (.slice _),.nilsl=>some (.val (.int .i64 0))
  |some (.slice _),.rsl _ _ _ n _=>some (.val (.int .i64 (.ofNat n)))
  |some (.map _ _),.nilmap=>some (.val (.int .i64 0))
  |some (.map _ _),.map id=>some<| .read id fun
   | .mapb _ _ es=>some (.val (.int .i64 (.ofNat (ac es))))
   |_=>none
  |_,_=>none
 |none=>none
def jY (argTypes:Array TypeId) (d x:AV):Option Eff:=
 match argTypes[0]? with
 | some t=>match da P t with
  | some e=>match bC P e with
   |some sz=>
    match d with
    | .rsl _ id off len _=>e9 sz x fun n cs=>
      let m:=min n len
      if bu cs then some<| .upd id fun
       | .cells l=>match splice l off (cs.take (m*sz)) with
        |some l'=>some (.cells l',.int .i64 (.ofNat m))
        |none=>none
       |_=>none
      else none
    | .nilsl=>e9 sz x fun _ _=>some (.val (.int .i64 0))
    | .fsl _ []=>e9 sz x fun _ _=>some (.val (.int .i64 0))
    |_=>none
   |none=>none
  |none=>none
 |none=>none
def sc (argTypes:Array TypeId) (x:AV):Option Eff:=
 match argTypes[0]? with
 | some t=>match P.underlying t with
  | some (.slice e)=>match bC P e,dp P e with
   | some sz,some z=>if Nat.beq (ac z.cells) sz&&bu z.cells&&Nat.blt 0 sz then
     match x with
     | .nilsl=>some (.val (.tuple []))
     | .fsl _ []=>some (.val (.tuple []))
     | .rsl _ id off len _=>some<| .upd id fun
      | .cells l=>(splice l off (flat (bV z len))).map fun l'=>(.cells l',.tuple [])
      |_=>none
     |_=>none
    else none
   |_,_=>none
  |_=>none
 |none=>none
def mX:AV→AV→Option Bool
 | .str a,.str b=>some (ag a b)
 | .int k a,.int k' b=>if k=k' then some (ah a b) else none
 |_,_=>none
def kW (k:AV):List (AV × AV)→Option (Option AV)
 |[]=>some none
 |(k',v)::t=>match mX k k' with
  |some true=>some (some v)
  |some false=>kW k t
  |none=>none
def kX (k v:AV):List (AV × AV)→Option (List (AV × AV))
 |[]=>some [(k,v)]
 | (k',v')::t=>match mX k k' with
  |some true=>some ((k,v)::t)
  |some false=>match kX k v t with
   |some u=>some ((k',v')::u)
   |none=>none
  |none=>none
def fG (kd:TypeDesc) (k:AV):Bool:=match kd,k with
 | .string,.str _=>true
 | .int j,.int k _=>decide (j=k)
 |_,_=>false
def g8 (kt:TypeId) (k:AV):Bool:=match P.underlying kt with
 |some kd=>fG kd k
 |none=>false
def kY (ok:Bool) (z:AV) (r:Option AV):AV:=match ok,r with
 |true,some v=> .tuple [v,.bool true]
 |true,none=> .tuple [z,.bool false]
 |false,some v=>v
 |false,none=>z
def oV (t:TypeId) (m k:AV) (ok:Bool):Option Eff:=
 match P.underlying t with
 | some (.map kt et)=>
  match g8 P kt k,dp P et with
  | true,some z=>
   match m with
   | .nilmap=>some (.val (kY ok z none))
   | .map id=>some<| .read id fun
    | .mapb _ _ es=>match kW k es with
     |some r=>some (.val (kY ok z r))
     |none=>none
    |_=>none
   |_=>none
  |_,_=>none
 |_=>none
def oW (t:TypeId) (m k v:AV):Option Eff:=
 match P.underlying t with
 | some (.map kt _)=>
  match g8 P kt k with
  | true=>match m with
   | .map id=>some<| .upd id fun
    | .mapb cl st es=>match kX k v es with
     |some es'=>match Nat.beq (ac es') (ac es) with
      |true=>some (.mapb cl st es',dW)
      |false=>some (.mapb (cl+1) (st++[cl]) es',dW)
     |none=>none
    |_=>none
   |_=>none
  |false=>none
 |_=>none
def kZ (k:AV):List (AV × AV)→Nat→Option (Option Nat)
 |[],_=>some none
 |(k',_)::t,i=>match mX k k' with
  |some true=>some (some i)
  |some false=>kZ k t (i+1)
  |none=>none
def oX (argTypes:Array TypeId) (m k:AV):Option Eff:=
 match argTypes[0]? with
 | some t=>match P.underlying t with
  | some (.map kt _)=>match g8 P kt k with
   | true=>match m with
    | .map id=>some<| .upd id fun
     | .mapb cl st es=>match kZ k es 0 with
      |some (some i)=>some (.mapb cl (st.eraseIdx i) (es.eraseIdx i),.tuple [])
      |some none=>some (.mapb cl st es,.tuple [])
      |none=>none
     |_=>none
    |_=>none
   |false=>none
  |_=>none
 |none=>none
def dD:List Nat→Nat→Bool
 |[],_=>false
 |a::t,x=>match Nat.beq a x with
  |true=>true
  |false=>dD t x
def jZ:List Nat→Nat→Bool
 |[],_=>true
 |a::t,n=>Nat.blt a n&&jZ t n
def mY (m since:Nat) (seen:List Nat) (cl:Nat):List Nat→List (AV × AV)→Option (List (AV × Blk))
 |[],[]=>some []
 | s::st,(k,v)::es=>match mY m since seen cl st es with
  |some l=>match dD seen s with
   |true=>some l
   |false=>some ((.tuple [.bool true,k,v],.miter m since (seen++[s]) cl)::l)
  |none=>none
 |_,_=>none
def k7 (it mp:Blk):Option (List (AV × Blk)):=
 match it,mp with
 | .miter m since seen last,.mapb cl st es=>match jZ st since&&Nat.ble since last with
  |true=>mY m since seen cl st es
  |false=>none
 |_,_=>none
def sd (t:TypeId) (x:AV):Option Eff:=
 match P.underlying t,x with
 |some (.map _ _),.map m=>some<| .read m fun
  | .mapb cl _ _=>some (.new (.miter m cl [] cl) fun id=> .ptr id 0)
  |_=>none
 |_,_=>none
def sf (x:AV) (isString:Bool):Option Eff:=
 match x,isString with
 | .ptr id 0,false=>some<| .read id fun
  | .miter m since seen last=>some<| .read m fun mp=>match k7 (.miter m since seen last) mp with
   |some []=>some (.val (.tuple [.bool false]))
   |some [(v,b)]=>some (.upd id fun
    | .miter _ _ _ _=>some (b,v)
    |_=>none)
   |_=>none
  |_=>none
 |_,_=>none
def j2:List Nat→Option Nat
 |[]=>none
 |[a]=>some a
 |_::t=>j2 t
def li (s:Nat):List Nat→List (AV × AV)→Option AV
 |a::st,(k,v)::es=>match Nat.beq a s with
  |true=>some (.tuple [k,v])
  |false=>li s st es
 |_,_=>none
def oY (x:AV):Option Eff:=
 match x with
 | .ptr id 0=>some<| .read id fun
  | .miter m _ seen last=>some<| .read m fun
   | .mapb cl st es=>match Nat.beq cl last,j2 seen with
    |true,some s=>match li s st es with
     |some v=>some (.val v)
     |none=>none
    |_,_=>none
   |_=>none
  |_=>none
 |_=>none
def sg:List AV→Option AV
 |[]=>none
 |x::rest=>rest.foldlM (fun x y=>match x,y with
  | .int k a,.int _ b=>some (.int k (if au b a then b else a))
  |_,_=>none) x
def sk:List AV→Option AV
 |[]=>none
 |x::rest=>rest.foldlM (fun x y=>match x,y with
  | .int k a,.int _ b=>some (.int k (if au a b then b else a))
  |_,_=>none) x
def sm (x:AV) (asserted:TypeId) (ok:Bool):Option AV:=
 match P.underlying asserted with
 |some (.interface _)=>none
 | some _=>match x with
  | .iface t v=>if t=asserted then some (if ok then .tuple [v,.bool true] else v)
   else if ok then (dp P asserted).map fun z=> .tuple [z,.bool false] else none
  | .nilIface=>if ok then (dp P asserted).map fun z=> .tuple [z,.bool false] else none
  |_=>none
 |none=>none
def i5 (b:Builtin) (argTypes:Array TypeId) (args:List AV):Option Eff:=
 match b,args with
 | .append,[s,x]=>jX P argTypes s x
 | .len,[x]=>g7 P argTypes x
 | .copy,[d,x]=>jY P argTypes d x
 | .clear,[x]=>sc P argTypes x
 | .delete,[m,k]=>oX P argTypes m k
 | .min,l=>(sg l).map .val
 | .max,l=>(sk l).map .val
 |_,_=>none
def oZ (t:TypeId) (name:String):Option FuncId:=
 match P.info? t with
 | some i=>match i.methods.find? (·.name==name) with
  | some m=>match m.path.isEmpty with
   |true=>match m.func,P.underlying t with
    |some (f,true),some (.pointer _)=>some f
    |some (_,false),some (.pointer _)=>none
    |some (f,false),some _=>some f
    |_,_=>none
   |false=>none
  |none=>none
 |none=>none
def sn (t:TypeId) (name:String):Option (TypeId × FuncId):=
 match P.info? t with
 | some i=>match i.methods.find? (·.name==name) with
  | some m=>match m.path.isEmpty with
   |true=>match m.func,P.underlying t with
    |some (f,false),some (.pointer e)=>some (e,f)
    |_,_=>none
   |false=>none
  |none=>none
 |none=>none
def wZ (f:FuncId) (rest:List AV):Eff→Option Eff
 | .val u=>some (.call f (u::rest))
 |_=>none
def mZ (glob:Nat→Option (List AV)) (t:TypeId) (v:AV) (name:String) (rest:List AV):Option Eff:=
 match oZ P t name with
 |some f=>some (.call f (v::rest))
 | none=>match sn P t name with
  |some (e,f)=>match eh P e v glob with
   |some (.val u)=>some (.call f (u::rest))
   |some (.read id k)=>some (.read id fun b=>(k b).bind (wZ f rest))
   |_=>none
  |none=>none
def o0 (glob:Nat→Option (List AV)) (fn:Fn) (args captured:List AV):Option Eff:=
 match fn with
 | .func f=>some (.call f (args++captured))
 | .method name=>match args with
  | .iface t v::rest=>mZ P glob t v name rest
  |_=>none
 | .methodOf t name=>match args with
  | r::rest=>match P.underlying t with
   |some (.interface _)=>match r with
    | .iface t' v=>mZ P glob t' v name rest
    |_=>none
   |some _=>mZ P glob t r name rest
   |none=>none
  |_=>none
 |_=>none
def eN (ev:Operand→Option AV):List Operand→Option (List AV)
 |[]=>some []
 |x::t=>match ev x with
  |some v=>(eN ev t).map (v:: ·)
  |none=>none
def gJ (ev:Operand→Option AV):List (Nat × Operand)→Option (List (Nat × AV))
 |[]=>some []
 |(i,x)::t=>match ev x with
  |some v=>(gJ ev t).map ((i,v):: ·)
  |none=>none
def em (ev:Operand→Option AV):Option Operand→Option (Option AV)
 |none=>some none
 |some x=>(ev x).map some
def e1 (ev:Operand→Option AV) (x:Operand) (k:AV→Option Eff):Option Eff:=
 match ev x with
 |some v=>k v
 |none=>none
def e2 (ev:Operand→Option AV) (x y:Operand) (k:AV→AV→Option Eff):Option Eff:=
 match ev x,ev y with
 |some v,some w=>k v w
 |_,_=>none
def e3 (ev:Operand→Option AV) (x y z:Operand) (k:AV→AV→AV→Option Eff):Option Eff:=
 match ev x,ev y,ev z with
 |some v,some w,some u=>k v w u
 |_,_,_=>none
def bz:Option AV→Option Eff
 |some v=>some (.val v)
 |none=>none
def o1 (ev:Operand→Option AV) (c a b:Operand):Option Eff:=
 match ev c with
 |some (.bool true)=>bz (ev a)
 |some (.bool false)=>bz (ev b)
 |_=>none
def lj (v:AV):Option Eff:=some (.new (.cells v.cells) fun id=> .ptr id 0)
def w5 (t:TypeId):Option Eff:=match dp P t with
 |some z=>lj z
 |none=>none
def o2 (ev:Operand→Option AV) (t:TypeId) (parts:Array (Nat × Operand)):Option Eff:=
 match gJ ev parts.toList with
 |some ps=>bz (mU P t ps)
 |none=>none
def ll (ev:Operand→Option AV) (t:TypeId) (n:Nat) (parts:Array (Nat × Operand)):Option Eff:=
 match gJ ev parts.toList with
 |some ps=>bz (mW P t n ps)
 |none=>none
def so (ev:Operand→Option AV) (t:TypeId) (n:Nat) (parts:Array (Nat × Operand)):Option Eff:=
 match ll P ev t n parts with
 | some (.val (.fsl true es))=>match da P t with
  |some e=>match bC P e with
   |some sz=>some (.new (.cells (flat es)) fun id=> .rsl true id 0 n sz)
   |none=>none
  |none=>none
 |_=>none
def sp (ev:Operand→Option AV) (t:TypeId) (x:Operand):Option Eff:=
 match P.underlying t with
 |some (.interface _)=>none
 |some _=>match ev x with
  |some v=>some (.val (.iface t v))
  |none=>none
 |none=>none
def sr (ev:Operand→Option AV) (fn:Fn) (a b:Array Operand):Option Eff:=
 match eN ev a.toList,eN ev b.toList with
 |some a,some b=>some (.val (.func fn a b))
 |_,_=>none
def m5 (ev:Operand→Option AV) (t:TypeId) (x:Operand) (lo hi mx:Option Operand):Option Eff:=
 match ev x,em ev lo,em ev hi,em ev mx with
 |some x,some lo,some hi,some mx=>gI P t x lo hi mx
 |_,_,_,_=>none
def ss (ev:Operand→Option AV) (t:TypeId) (x:Operand) (f:Nat):Option Eff:=
 match jU P t f,ev x with
 |some fd,some (.agg cs)=>bz (ch P fd.type cs fd.offset)
 |_,_=>none
def o3 (ev:Operand→Option AV) (t:Operand) (i:Nat):Option Eff:=
 match ev t with
 |some (.tuple vs)=>bz (cg vs i)
 |_=>none
def f6 (glob:Nat→Option (List AV)) (ev:Operand→Option AV) (c:Call):Option Eff:=
 match eN ev c.args.toList with
 |none=>none
 | some args=>match c.callee with
  | .builtin b=>i5 P b c.argTypes args
  | .value f=>match ev f with
   |some (.func fn first captured)=>o0 P glob fn (first++args) captured
   |_=>none
  | .invoke r name=>match ev r with
   |some v=>o0 P glob (.method name) (v::args) []
   |none=>none
def a7 (glob:Nat→Option (List AV)) (ev:Operand→Option AV) (o:Oper):Option Eff:=
 match o.op with
 | .move x=>bz (ev x)
 | .assign x=>bz (ev x)
 | .pick c a b=>o1 ev c a b
 | .alloc t=>w5 P t
 | .box _ x=>e1 ev x lj
 | .build t parts=>o2 P ev t parts
 | .buildSlice t n parts=>ll P ev t n parts
 | .load t a=>e1 ev a fun a=>eh P t a glob
 | .store t a x=>e2 ev a x (jS P t)
 | .nilCheck x=>e1 ev x fun v=>bz (mO v)
 | .binOp op t x y _=>e2 ev x y fun v w=>bz (aU P op t x y v w)
 | .unOp op _ x=>e1 ev x fun v=>bz (r4 op v)
 | .convert s d x=>e1 ev x (ei P s d)
 | .makeInterface t x=>sp P ev t x
 | .makeFunc fn a b=>sr ev fn a b
 | .makeMap _ none=>some (.new (.mapb 0 [] []) .map)
 | .makeSlice t l c=>e2 ev l c (mP P t)
 | .slice t x lo hi mx=>m5 P ev t x lo hi mx
 | .fieldAddr t x f=>e1 ev x fun v=>bz (mT P t v f)
 | .field t x f=>ss P ev t x f
 | .indexAddr t x i=>e2 ev x i fun v w=>bz (aQ P t v w)
 | .index t x i=>e2 ev x i fun v w=>bz (cL P t v w)
 | .sliceToArrayPointer t x=>e1 ev x fun v=>bz (r9 P t v)
 | .lookup t m k ok=>e2 ev m k fun m k=>oV P t m k ok
 | .mapUpdate t m k v=>e3 ev m k v (oW P t)
 | .typeAssert x _ a ok=>e1 ev x fun v=>bz (sm P v a ok)
 | .extract t i=>o3 ev t i
 | .range t x=>e1 ev x fun v=>sd P t v
 | .next x b=>e1 ev x fun v=>sf v b
 | .entry x=>e1 ev x fun v=>oY v
 | .call c=>f6 P glob ev c
 |_=>none
end
def Dn (P:Program) (f:FuncId):Bool:=match P.funcs[f]? with
 |some fn=>fn.name== "locksmith/locksmithlaw19.of"
 |none=>false
def su (d:Nat):List Operand→Bool
 |[]=>false
 | .tmp x::t=>match Nat.beq x d with
  |true=>true
  |false=>su d t
 |_::t=>su d t
def w6 (P:Program):List Oper→Nat→Bool
 |[],_=>false
 | c::t,d=>match (match c.op with
   | .convert s u (.tmp x)=>Nat.beq s u&&Nat.beq x d
   | .call c=>match c.callee with
    | .value (.func f)=>su d c.args.toList&&Dn P f
    |_=>false
   |_=>false) with
  |true=>true
  |false=>w6 P t d
def bE (P:Program) (glob:Nat→Option (List AV)) (ops:List Oper) (ev:Operand→Option AV) (o:Oper):Option Eff:=
 match o.op,o.dst with
 | .buildSlice t n parts,some d=>match w6 P ops d with
  |true=>so P ev t n parts
  |false=>a7 P glob ev o
 |_,_=>a7 P glob ev o
structure St where
 slots:Tr
 heap:ab
 nx:Nat
 n:Nat
def aS (slots:Tr):Operand→Option AV
 | .tmp t=>slots.get t
 | .const v=>ofValue v
 | .global g=>some (.gptr g 0)
 | .func f=>some (.func (.func f) [] [])
structure Foot where
 all:Bool
 r:List Nat
 w:List Nat
def j3:List Nat→List Nat→Bool
 |[],_=>true
 |a::t,l=> !dD l a&&j3 t l
def Foot.none (f:Foot):Bool:= !f.all&&f.r.isEmpty&&f.w.isEmpty
def Foot.apart (f g:Foot):Bool:=match g.w with
 |n::l=>(jZ f.r n&&jZ f.w n)&&(j3 f.w (g.r++l)&&j3 l f.r)
 |[]=>false
def Foot.compat (f g:Foot):Bool:=
 f.none||g.none||(match f.all,g.all with
  |false,false=>j3 f.w (g.r++g.w)&&j3 g.w f.r
  |false,true=>f.apart g
  |true,false=>g.apart f
  |true,true=>false)
abbrev aI:=FuncId→List AV→Nat→ab→Nat→Option (AV × ab × Nat × Foot)
def aM (call:aI) (id:Nat):Nat→Eff→ab→Nat→Option (AV × ab × Nat × Foot)
 |_,.val v,h,nx=>some (v,h,nx,⟨false,[],[]⟩)
 |_,.skip,h,nx=>some (dW,h,nx,⟨false,[],[]⟩)
 | _,.upd i k,h,nx=>match hget h i with
  |some b=>match k b with
   |some (b',v)=>some (v,aY h i b',nx,⟨false,[],[i]⟩)
   |none=>none
  |none=>none
 |_,.new b k,h,nx=>some (k id,aY h id b,nx,⟨false,[],[id]⟩)
 | _,.repl i k,h,nx=>match hget h i with
  |some b=>match k b with
   |some (b',v)=>some (v id,aY (aZ h i) id b',nx,⟨false,[],[i,id]⟩)
   |none=>none
  |none=>none
 | _,.shut i k,h,nx=>match hget h i with
  |some b=>match k b with
   |some v=>some (v,aZ h i,nx,⟨false,[],[i]⟩)
   |none=>none
  |none=>none
 |_,.call f args,h,nx=>call f args id h nx
 |0,.read _ _,_,_=>none
 | n+1,.read i k,h,nx=>match hget h i with
  | some b=>match k b with
   |some e=>match aM call id n e h nx with
    |some (v,h',nx',ft)=>some (v,h',nx',⟨ft.all,i::ft.r,ft.w⟩)
    |none=>none
   |none=>none
  |none=>none
def cw (ops:List Oper) (o:Oper) (slots:Tr):Option Bool:=
 match o.guard with
 |none=>some true
 | some (j,want)=>match cg ops j with
  | some g=>match g.dst with
   |some d=>match slots.get d with
    |some (.bool b)=>some (b==want)
    |some (.tuple [])=>some false
    |_=>none
   |none=>none
  |none=>none
def bM (n:Nat) (slots:Tr):Option Tmp→AV→Tr
 |some d,v=>match Nat.blt d n with
  |true=>slots.set 12 d v
  |false=>slots
 |none,_=>slots
section
variable (P:Program) (glob:Nat→Option (List AV)) (call:aI)
def cQ (ops:List Oper) (id:Nat) (o:Oper) (s:St):Option (St × Foot):=
 match cw ops o s.slots with
 | some true=>match bE P glob ops (aS s.slots) o with
  |some e=>match aM call id 2 e s.heap s.nx with
   |some (v,h,nx,ft)=>some (⟨bM s.n s.slots o.dst v,h,nx,s.n⟩,ft)
   |none=>none
  |none=>none
 |some false=>some (⟨bM s.n s.slots o.dst dW,s.heap,s.nx,s.n⟩,⟨false,[],[]⟩)
 |none=>none
def cH (all:List Oper) (base:Nat):List Oper→Nat→St→List (Nat × Foot)→Option (St × List (Nat × Foot))
 |[],_,s,acc=>some (s,acc)
 |o::rest,i,s,acc=>match cQ P glob call all (base+i) o s with
  |some (s',ft)=>cH all base rest (i+1) s' (match ft.none with|true=>acc|false=>(i,ft)::acc)
  |none=>none
end
def j4 (e:Edge):Bool:=match e.ground with
 | .textOnly _| .gcOnly _=>false
 |_=>true
def m6 (acc:List Nat) (es:List Edge):Nat:=
 es.foldl (fun s e=>if j4 e then s|||2^e.on|||(cg acc e.on).getD 0 else s) 0
def dq:List Oper→List Nat→List Nat
 |[],acc=>acc
 |o::t,acc=>dq t (acc++[m6 acc o.after.toList])
def gK (bs:List Nat):List (Nat × Foot)→Bool
 |[]=>true
 |(j,fj)::t=>(t.all fun (i,fi)=>(((cg bs j).getD 0).testBit i)||fi.compat fj)&&gK bs t
def j5 (ops:List Oper) (o:Oper):List Tmp:=
  (o.op.operands.toList.filterMap fun| .tmp t=>some t|_=>none)++
  (match o.guard with
   |some (g,_)=>((cg ops g).bind (·.dst)).toList
   |none=>[])
def j6 (ops:List Oper) (x y:Oper):Bool:=
  (match x.dst with
   |some d=> !dD (j5 ops y) d&&(match y.dst with|some e=> !Nat.beq e d|none=>true)
   |none=>true)&&
  (match y.dst with
   |some d=> !dD (j5 ops x) d
   |none=>true)
def o4 (ops:List Oper) (bj:Nat) (oj:Oper):List Oper→Nat→Bool
 |[],_=>true
 |oi::t,i=>(bj.testBit i||j6 ops oi oj)&&o4 ops bj oj t (i+1)
def o5 (ops:List Oper) (bs:List Nat):List Oper→Nat→Bool
 |[],_=>true
 |oj::t,j=>o4 ops ((cg bs j).getD 0) oj (ops.take j) 0&&o5 ops bs t (j+1)
def o6:List Oper→Nat→Bool
 |[],_=>true
 |o::t,j=>(o.after.toList.all fun e=> !j4 e||Nat.blt e.on j)&&o6 t (j+1)
def g9 (ops:List Oper):Bool:=o6 ops 0&&o5 ops (dq ops []) ops 0
inductive AExit where
 |normal
 |exit (id:Nat)
 |ret
def lm (body:St→Option (AExit × St)):Nat→St→Option (AExit × St)
 |0,_=>none
 |n+1,s=>match body s with
  |some (.normal,s')=>lm body n s'
  |r=>r
section
variable (P:Program) (glob:Nat→Option (List AV)) (call:aI)
def bW (lf:Nat):Code→St→Option (AExit × St)
 | .skip,s| .label _,s=>some (.normal,s)
 | .region _ ops draw,s=>
  match cH P glob call ops.toList s.nx ops.toList 0 ⟨s.slots,s.heap,s.nx+ac ops.toList,s.n⟩ [] with
  | some (s',feet)=>match draw with
   |false=>some (.normal,s')
   |true=>match g9 ops.toList&&gK (dq ops.toList []) feet with
    |true=>some (.normal,s')
    |false=>none
  |none=>none
 | .seq a b,s=>match bW lf a s with
  |some (.normal,s')=>bW lf b s'
  |r=>r
 | .cond c a b,s=>match aS s.slots c with
  |some (.bool true)=>bW lf a s
  |some (.bool false)=>bW lf b s
  |_=>none
 | .block id body,s=>match bW lf body s with
  |some (.exit i,s')=>match Nat.beq i id with
   |true=>some (.normal,s')
   |false=>some (.exit i,s')
  |r=>r
 | .loop body,s=>lm (bW lf body) lf s
 | .exit id,s=>some (.exit id,s)
 | .ret,s=>some (.ret,s)
 |_,_=>none
end
mutual
def ad:AV→Bool
 | .ptr _ _| .rsl _ _ _ _ _| .map _=>false
 | .fptr cs _| .fsl _ cs| .agg cs| .tuple cs=>ae cs
 | .func _ a b=>ae a&&ae b
 | .iface _ v=>ad v
 |_=>true
def ae:List AV→Bool
 |[]=>true
 |a::t=>ad a&&ae t
end
def bJ (f:AV→Option AV):List AV→Option (List AV)
 |[]=>some []
 | a::t=>match f a with
  |some b=>match bJ f t with
   |some u=>some (b::u)
   |none=>none
  |none=>none
def aH (n:Nat) (h:ab):Nat→AV→Option AV
 |0,_=>none
 | d +1,v=>match v with
  | .ptr id off=>match Nat.blt id n with
   |true=>some v
   | false=>match hget h id with
    |some (.cells l)=>match bJ (aH n h d) l with
     |some l'=>some (.fptr l' off)
     |none=>none
    |_=>none
  | .rsl _ id off len sz=>match Nat.blt id n with
   |true=>some v
   | false=>match hget h id with
    | some (.cells l)=>match i3 sz len (l.drop off) with
     |some es=>match bJ (aH n h d) es with
      |some es'=>some (.fsl false es')
      |none=>none
     |none=>none
    |_=>none
  | .fptr cs off=>match bJ (aH n h d) cs with
   |some cs'=>some (.fptr cs' off)
   |none=>none
  | .fsl f es=>match bJ (aH n h d) es with
   |some es'=>some (.fsl f es')
   |none=>none
  | .agg cs=>match bJ (aH n h d) cs with
   |some cs'=>some (.agg cs')
   |none=>none
  | .tuple cs=>match bJ (aH n h d) cs with
   |some cs'=>some (.tuple cs')
   |none=>none
  | .func fn a b=>match bJ (aH n h d) a,bJ (aH n h d) b with
   |some a',some b'=>some (.func fn a' b')
   |_,_=>none
  | .iface t v=>match aH n h d v with
   |some v'=>some (.iface t v')
   |none=>none
  | .map id=>match Nat.blt id n with
   |true=>some v
   |false=>none
  |v=>some v
def fa (n:Nat):ab→ab
 |[]=>[]
 |(i,b)::t=>match Nat.blt i n with
  |true=>(i,b)::fa n t
  |false=>fa n t
def db (P:Program) (glob:Nat→Option (List AV)) (s:St):List ResultVar→Option (List AV)
 |[]=>some []
 | r ::t=>
  match (match r with
   | .tmp x=>s.slots.get x
   | .cell a ty=>match s.slots.get a with
    | some p=>match eh P ty p glob with
     |some (.val v)=>some v
     | some (.read id k)=>match hget s.heap id with
      |some b=>match k b with
       |some (.val v)=>some v
       |_=>none
      |none=>none
     |_=>none
    |none=>none) with
  |some v=>match db P glob s t with
   |some l=>some (v::l)
   |none=>none
  |none=>none
def cW:List AV→AV
 |[v]=>v
 |l=> .tuple l
inductive o7 where
 |pure|fresh|keep
 |look (d:Nat)|each (d:Nat)|clone
 |part (d:Nat)|cmp|known
def cX:List AV→Nat→Tr→Tr
 |[],_,t=>t
 |v::vs,k,t=>cX vs (k+1) (t.set 12 k v)
structure aT where
 how:FuncId→o7
 summ:FuncId→List AV→Option AV
 glob:Nat→Option (List AV)
 lf:Nat
 cx:aI:=fun _ _ _ _ _=>none
def ep (P:Program) (O:aT) (call:aI) (f:FuncId) (args:List AV) (h:ab) (nx:Nat):Option (AV × ab × Nat):=
  match P.funcs[f]? with
  | some fn=>match fn.body with
    | some c=>match fn.name== "runtime.NumGoroutine" with
      |true=>none
      | false=>match Nat.ble (ac args) fn.ntmps&&Nat.ble fn.ntmps 4095 with
       |false=>none
       |true=>match bW P O.glob call O.lf c ⟨cX args 0 .tip,h,nx,fn.ntmps⟩ with
        | some (.normal,s)|some (.ret,s)=>match db P O.glob s fn.results.toList with
          |some l=>some (cW l,s.heap,s.nx)
          |none=>none
        |_=>none
    |none=>none
  |none=>none
def fH (h':ab) (v:AV) (id:Nat) (h:ab) (nx:Nat):Option (AV × ab × Nat × Foot):=
 match v with
 | .rsl true i 0 len sz=>match hget h' i with
  | some (.cells l)=>match bJ (aH 0 (aZ h' i) 40) l with
   |some l'=>match ae l' with
    |true=>some (.rsl true id 0 len sz,aY h id (.cells l'),nx,⟨false,[],[id]⟩)
    |false=>none
   |none=>none
  |_=>none
 | .ptr i off=>match hget h' i with
  | some (.cells l)=>match bJ (aH 0 (aZ h' i) 40) l with
   |some l'=>match ae l' with
    |true=>some (.ptr id off,aY h id (.cells l'),nx,⟨false,[],[id]⟩)
    |false=>none
   |none=>none
  |_=>none
 | v=>match aH 0 h' 40 v with
  |some v'=>match ad v' with
   |true=>some (v',h,nx,⟨false,[],[]⟩)
   |false=>none
  |none=>none
def ln (i:Nat) (acc:List Nat):List Nat:=match dD acc i with
 |true=>acc
 |false=>i::acc
mutual
def er:AV→List Nat→List Nat
 | .ptr i _,acc=>ln i acc
 | .rsl _ i _ _ _,acc=>ln i acc
 | .map i,acc=>ln i acc
 | .fptr cs _,acc=>bg cs acc
 | .fsl _ cs,acc=>bg cs acc
 | .agg cs,acc=>bg cs acc
 | .tuple cs,acc=>bg cs acc
 | .func _ a b,acc=>bg b (bg a acc)
 | .iface _ v,acc=>er v acc
 |_,acc=>acc
def bg:List AV→List Nat→List Nat
 |[],acc=>acc
 |a::t,acc=>bg t (er a acc)
end
def o8:List (AV × AV)→List Nat→List Nat
 |[],acc=>acc
 |(a,b)::t,acc=>o8 t (er b (er a acc))
def sv:Blk→List Nat→List Nat
 | .cells l,acc=>bg l acc
 | .siter _ _,acc=>acc
 | .mapb _ _ es,acc=>o8 es acc
 | .miter m _ _ _,acc=>ln m acc
def i6 (h:ab):List Nat→List Nat→List Nat
 |[],acc=>acc
 |i::t,acc=>match hget h i with
  |some b=>i6 h t (sv b acc)
  |none=>i6 h t acc
def bv (h:ab):Nat→List Nat→List Nat
 |0,l=>l
 |d+1,l=>bv h d (i6 h l l)
def bG (h:ab):List Nat→ab
 |[]=>[]
 |i::t=>bU (bG h t) i (hget h i)
mutual
def di (n:Nat):AV→Bool
 | .ptr i _=>Nat.blt i n
 | .rsl _ i _ _ _=>Nat.blt i n
 | .map i=>Nat.blt i n
 | .fptr cs _=>fI n cs
 | .fsl _ cs=>fI n cs
 | .agg cs=>fI n cs
 | .tuple cs=>fI n cs
 | .func _ a b=>fI n a&&fI n b
 | .iface _ v=>di n v
 |_=>true
def fI (n:Nat):List AV→Bool
 |[]=>true
 |a::t=>di n a&&fI n t
end
def m7 (n:Nat):List (AV × AV)→Bool
 |[]=>true
 |(a,b)::t=>di n a&&(di n b&&m7 n t)
def m8 (n:Nat):Blk→Bool
 | .cells l=>fI n l
 | .siter _ _=>true
 | .mapb _ _ es=>m7 n es
 | .miter m _ _ _=>Nat.blt m n
mutual
def i7:AV→AV→Bool
 | .bool a,.bool b=>(a&&b)||(!a&& !b)
 | .int k a,.int k' b=>decide (k=k')&&ah a b
 | .str a,.str b=>ag a b
 | .ptr i o,.ptr j p=>Nat.beq i j&&Nat.beq o p
 | .nilp,.nilp=>true
 | .fptr a o,.fptr b p=>Nat.beq o p&&eO a b
 | .fsl f a,.fsl g b=>((f&&g)||(!f&& !g))&&eO a b
 | .rsl f i o l z,.rsl g j p m y=>((f&&g)||(!f&& !g))&&(Nat.beq i j&&(Nat.beq o p&&(Nat.beq l m&&Nat.beq z y)))
 | .nilsl,.nilsl=>true
 | .nesl,.nesl=>true
 | .map i,.map j=>Nat.beq i j
 | .nilmap,.nilmap=>true
 | .func (.func f) a b,.func (.func g) c d=>Nat.beq f g&&(eO a c&&eO b d)
 | .nilFunc,.nilFunc=>true
 | .iface t v,.iface u w=>Nat.beq t u&&i7 v w
 | .nilIface,.nilIface=>true
 | .agg a,.agg b=>eO a b
 | .tuple a,.tuple b=>eO a b
 |_,_=>false
def eO:List AV→List AV→Bool
 |[],[]=>true
 |a::t,b::u=>i7 a b&&eO t u
 |_,_=>false
end
def lp:List (AV × AV)→List (AV × AV)→Bool
 |[],[]=>true
 |(a,b)::t,(c,d)::u=>i7 a c&&(i7 b d&&lp t u)
 |_,_=>false
def lr:List Nat→List Nat→Bool
 |[],[]=>true
 |a::t,b::u=>Nat.beq a b&&lr t u
 |_,_=>false
def o9:Blk→Blk→Bool
 | .cells a,.cells b=>eO a b
 | .mapb c s a,.mapb d t b=>Nat.beq c d&&(lr s t&&lp a b)
 |_,_=>false
def lv (f:AV→Option AV):List (AV × AV)→Option (List (AV × AV))
 |[]=>some []
 | (a,b)::t=>match f a with
  | some a'=>match f b with
   |some b'=>match lv f t with
    |some u=>some ((a',b')::u)
    |none=>none
   |none=>none
  |none=>none
def i8 (n:Nat) (h:ab):Blk→Option Blk
 | .cells l=>match bJ (aH n h 40) l with
  |some l'=>some (.cells l')
  |none=>none
 | .mapb cl st es=>match lv (aH n h 40) es with
  |some es'=>some (.mapb cl st es')
  |none=>none
 |b=>some b
abbrev Mods:=List (Nat × Option Blk)
def Mods.app:Mods→ab→ab
 |[],h=>h
 |(k,b)::t,h=>Mods.app t (bU h k b)
def Mods.keys:Mods→List Nat
 |[]=>[]
 |(k,_)::t=>k::Mods.keys t
def f7 (n:Nat) (h1 h:ab):List Nat→Option Mods
  |[]=>some []
  | i :: t => match Nat.blt i n with
   |false=>none
   | true =>match f7 n h1 h t with
    | some m=>match hget h1 i,hget h i with
      |none,none=>some m
      |none,some _=>some ((i,none)::m)
      | some b,o=>match i8 n h1 b with
        | some b'=>match m8 n b' with
          | true=>match (match o with
              |some c=>o9 c b'
              |none=>false) with
            |true=>some m
            |false=>some ((i,some b')::m)
          |false=>none
        |none=>none
    |none=>none
def lookEnd (L:List Nat) (id nx:Nat) (h:ab) (v:AV) (h1:ab):Option (AV × Option (List AV) × Mods):=
  match v with
  | .rsl true i 0 len sz=>match Nat.blt i nx with
    |true=>lookPlain v
    | false=>match hget h1 i with
      | some (.cells l)=>match bJ (aH nx (aZ h1 i) 40) l with
        | some l'=>match fI nx l',f7 nx (aZ h1 i) h L with
          |true,some m=>some (.rsl true id 0 len sz,some l',m)
          |_,_=>none
        |none=>none
      |_=>none
  |v=>lookPlain v
 where
  lookPlain (v:AV):Option (AV × Option (List AV) × Mods):=match aH nx h1 40 v with
    | some v'=>match di nx v',f7 nx h1 h L with
      |true,some m=>some (v',none,m)
      |_,_=>none
    |none=>none
def eu (L:List Nat) (id nx:Nat) (h:ab) (r:AV × Option (List AV) × Mods):AV × ab × Nat × Foot:=
 (r.1,(match r.2.1 with
  |none=>Mods.app r.2.2 h
  |some l=>aY (Mods.app r.2.2 h) id (.cells l)),nx,⟨false,nx::L,id::r.2.2.keys⟩)
def j7 (P:Program) (O:aT) (call:aI) (d:Nat) (f:FuncId) (args:List AV) (id:Nat) (h:ab) (nx:Nat):Option (AV × ab × Nat × Foot):=
 match ep P O call f args (bG h (bv h d (bg args []))) nx with
 |some (v,h1,_)=>match lookEnd (bv h d (bg args [])) id nx h v h1 with
  |some r=>some (eu (bv h d (bg args [])) id nx h r)
  |none=>none
 |none=>none
section
variable (P:Program) (glob:Nat→Option (List AV)) (call:aI)
def lw (k:AExit × St→Option (List (AExit × St))):List (AExit × St)→Option (List (AExit × St))
 |[]=>some []
 | a::t=>match k a with
  |some l=>match lw k t with
   |some u=>some (l++u)
   |none=>none
  |none=>none
def m9 (body:St→Option (List (AExit × St))):Nat→St→Option (List (AExit × St))
 |0,_=>none
 | n+1,s=>match body s with
  |some l=>lw (fun p=>match p with
   |(.normal,s')=>m9 body n s'
   |r=>some [r]) l
  |none=>none
def na (ops:List Oper) (rest:List Oper) (dst:Option Tmp) (it:Nat) (s:St):List (AV × Blk)→Option (List (AExit × St))
 |[]=>some []
 | (v,b)::t=>match cH P glob call ops (s.nx-ac ops) rest 1 ⟨bM s.n s.slots dst v,aY s.heap it b,s.nx,s.n⟩ [] with
  |some (s',_)=>match na ops rest dst it s t with
   |some l=>some ((.normal,s')::l)
   |none=>none
  |none=>none
def ew (lf:Nat):Code→St→Option (List (AExit × St))
 | .seq a b,s=>match ew lf a s with
  |some l=>lw (fun p=>match p with
   |(.normal,s')=>ew lf b s'
   |r=>some [r]) l
  |none=>none
 | .cond c a b,s=>match aS s.slots c with
  |some (.bool true)=>ew lf a s
  |some (.bool false)=>ew lf b s
  |_=>none
 | .block id body,s=>match ew lf body s with
  | some l=>lw (fun p=>match p with
   |(.exit i,s')=>match Nat.beq i id with
    |true=>some [(.normal,s')]
    |false=>some [(.exit i,s')]
   |r=>some [r]) l
  |none=>none
 | .loop body,s=>m9 (ew lf body) lf s
 | .region rid ops draw,s=>match ops.toList,draw with
  | o ::rest,false=>match o.op,o.guard with
   | .next x false,none=>match aS s.slots x with
    | some (.ptr it 0)=>match hget s.heap it with
     | some (.miter m since seen last)=>match hget s.heap m with
      |some mp=>match k7 (.miter m since seen last) mp with
       |some (p::q::t)=>na P glob call (o::rest) rest o.dst it ⟨s.slots,s.heap,s.nx+ac (o::rest),s.n⟩ (p::q::t)
       |_=>(bW P glob call lf (.region rid ops false) s).map fun r=>[r]
      |none=>none
     |_=>none
    |_=>none
   |_,_=>(bW P glob call lf (.region rid ops false) s).map fun r=>[r]
  |_,draw=>(bW P glob call lf (.region rid ops draw) s).map fun r=>[r]
 |c,s=>(bW P glob call lf c s).map fun r=>[r]
end
def i9 (P:Program) (G:Nat→Option (List AV)) (rs:List ResultVar) (L:List Nat) (id nx:Nat) (h:ab):List (AExit × St)→Option (AV × Option (List AV) × Mods)
 |[]=>none
 | (e,s)::t=>match (match e with
   | .exit _=>none
   |_=>match db P G s rs with
    |some l=>lookEnd L id nx h (cW l) s.heap
    |none=>none) with
  | some (v,row,[])=>match t with
   |[]=>some (v,row,[])
   | _::_=>match i9 P G rs L id nx h t with
    | some (v',row',[])=>match i7 v v'&&(match row,row' with
      |none,none=>true
      |some a,some b=>eO a b
      |_,_=>false) with
     |true=>some (v,row,[])
     |false=>none
    |_=>none
  |_=>none
def j8 (P:Program) (O:aT) (call:aI) (d:Nat) (f:FuncId) (args:List AV) (id:Nat) (h:ab) (nx:Nat):Option (AV × ab × Nat × Foot):=
  match P.funcs[f]? with
  | some fn=>match fn.body with
    | some c=>match fn.name== "runtime.NumGoroutine" with
      |true=>none
      | false=>match Nat.ble (ac args) fn.ntmps&&Nat.ble fn.ntmps 4095 with
       |false=>none
       |true=>match ew P O.glob call O.lf c ⟨cX args 0 .tip,bG h (bv h d (bg args [])),nx,fn.ntmps⟩ with
        | some l=>match i9 P O.glob fn.results.toList (bv h d (bg args [])) id nx h l with
          |some r=>some (eu (bv h d (bg args [])) id nx h r)
          |none=>none
        |none=>none
    |none=>none
  |none=>none
def ja (P:Program) (f:FuncId) (args:List AV) (id:Nat) (h:ab) (nx:Nat):Option (AV × ab × Nat × Foot):=
 match P.funcs[f]? with
 | some fn=>match fn.body.isNone&&(fn.name== "maps.clone" &&fn.origin== "") with
  | true=>match args with
   |[.iface t (.map m)]=>match hget h m with
    |some (.mapb cl st es)=>some (.iface t (.map id),aY h id (.mapb cl st es),nx,⟨false,[m],[id]⟩)
    |_=>none
   |_=>none
  |false=>none
 |none=>none
def ey (nx:Nat) (h1:ab):ab→Mods
 |[]=>[]
 |(k,_)::t=>match Nat.blt k nx with
  |true=>ey nx h1 t
  |false=>(k,hget h1 k)::ey nx h1 t
def eP (h1:ab):List Nat→Mods
 |[]=>[]
 |i::t=>(i,hget h1 i)::eP h1 t
def gL:Mods→Mods→Mods
 |[],m=>m
 |p::t,m=>p::gL t m
def j9 (P:Program) (O:aT) (call:aI) (d:Nat) (f:FuncId) (args:List AV) (h:ab) (nx:Nat):Option (AV × ab × Nat × Foot):=
  match ep P O call f args (bG h (bv h d (bg args []))) nx with
  |some (v,h1,nx')=>match Nat.ble nx nx' with
   |false=>none
   |true=>some (v,Mods.app (gL (eP h1 (bv h d (bg args []))) (ey nx h1 h1)) h,nx',⟨true,bv h d (bg args []),nx::bv h d (bg args [])⟩)
  |none=>none
def jb (P:Program) (f:FuncId) (args:List AV) (h:ab) (nx:Nat):Option (AV × ab × Nat × Foot):=
 match P.funcs[f]? with
 | some fn=>match fn.body.isNone&&(fn.name== "internal/bytealg.abigen_runtime_cmpstring" &&fn.origin== "") with
  | true=>match args with
   | [.str a,.str b]=>some (.int .i64 (match eM a b with
    |true=> -1
    |false=>match eM b a with
     |true=>1
     |false=>0),h,nx,⟨false,[],[]⟩)
   |_=>none
  |false=>none
 |none=>none
def a8 (P:Program) (O:aT):Nat→aI
 |0,_,_,_,_,_=>none
 | n +1,f,args,id,h,nx=>
  match O.how f,ae args with
  | .look d,_=>j7 P O (a8 P O n) d f args id h nx
  | .each d,_=>j8 P O (a8 P O n) d f args id h nx
  | .clone,_=>ja P f args id h nx
  | .part d,_=>j9 P O (a8 P O n) d f args h nx
  | .cmp,_=>jb P f args h nx
  | .known,_=>O.cx f args id h nx
  | .pure,true=>match O.summ f args with
   |some v=>some (v,h,nx,⟨false,[],[]⟩)
   | none=>match ep P O (a8 P O n) f args [] 0 with
    | some (v,h',_)=>match aH 0 h' 40 v with
     |some v'=>match ad v' with
      |true=>some (v',h,nx,⟨false,[],[]⟩)
      |false=>none
     |none=>none
    |none=>none
  | .fresh,true=>match ep P O (a8 P O n) f args [] 0 with
   |some (v,h',_)=>fH h' v id h nx
   |none=>none
  | .pure,false=>match ep P O (a8 P O n) f args h nx with
   |some (v,h',nx')=>match aH nx h' 40 v with
    |some v'=>some (v',fa nx h',nx',⟨true,[],[]⟩)
    |none=>none
   |none=>none
  |_,_=>match ep P O (a8 P O n) f args h nx with
   |some (v,h',nx')=>some (v,h',nx',⟨true,[],[]⟩)
   |none=>none
end
end Go.Proofs.Abs
/- How trees stand for the model's values, and short heaps for its memory. -/
namespace Go.Proofs.Abs
open Go
inductive Rep (w:World) (I:Nat→Prop) (α:Nat→Option Nat):AV→Value→Prop
 |bool (b:Bool):Rep w I α (.bool b) (.bool b)
 |int (k:IntKind) (n:Int):Rep w I α (.int k n) (.int k n)
 |str (s:List UInt8) (b:ByteArray) (h:b.data.toList=s):Rep w I α (.str s) (.string b)
 |ptr (id off b:Nat) (h:α id=some b):Rep w I α (.ptr id off) (.pointer (some ⟨b,off,none⟩))
 |nilp:Rep w I α .nilp (.pointer none)
 | fptr (cs:List AV) (off b base:Nat) (g:Nat→Value) (hI:I b)
   (hg:∀j c,cs[j]? =some c→w.cell? ⟨b,base+j,none⟩=some (g j))
   (hr:∀j c,cs[j]? =some c→Rep w I α c (g j)):Rep w I α (.fptr cs off) (.pointer (some ⟨b,base+off,none⟩))
 |gptr (g off:Nat):Rep w I α (.gptr g off) (.pointer (some ⟨g,off,none⟩))
 | fsl (full:Bool) (es:List AV) (a:Option Addr) (len cap sz b base:Nat) (g:Nat→Nat→Value) (hl:es.length=len) (hc:len≤cap)
   (hf:full=true→cap=len) (ha:a=some ⟨b,base,none⟩∨cap=0) (hI:es≠[]→I b)
   (hs:∀e∈es,e.cells.length=sz)
   (hg:∀i e j c,es[i]? =some e→e.cells[j]? =some c→w.cell? ⟨b,base+i*sz+j,none⟩=some (g i j))
   (hr:∀i e j c,es[i]? =some e→e.cells[j]? =some c→Rep w I α c (g i j)):Rep w I α (.fsl full es) (.slice a len cap)
 | rsl (own:Bool) (id off len sz cap b:Nat) (h:α id=some b) (hc:len≤cap)
   (ho:own=true→∃e n,w.shape? b=some (e,n)∧off+cap*sz=n):Rep w I α (.rsl own id off len sz) (.slice (some ⟨b,off,none⟩) len cap)
 |nilsl:Rep w I α .nilsl (.slice none 0 0)
 |nesl (a:Addr) (cap:Nat):Rep w I α .nesl (.slice (some a) 0 cap)
 |map (id b:Nat) (h:α id=some b):Rep w I α (.map id) (.map (some b))
 |nilmap:Rep w I α .nilmap (.map none)
 | func (fn:Fn) (a c:List AV) (a' c':Array Value) (h1:a.length=a'.size) (h2:c.length=c'.size)
   (h3:∀ (i:Nat) x y,a[i]? =some x→a'[i]? =some y→Rep w I α x y) (h4:∀ (i:Nat) x y,c[i]? =some x→c'[i]? =some y→Rep w I α x y):
   Rep w I α (.func fn a c) (.func fn a' c')
 |nilFunc:Rep w I α .nilFunc .nilFunc
 |iface (t:TypeId) (v:AV) (v':Value) (h:Rep w I α v v'):Rep w I α (.iface t v) (.iface t v')
 |nilIface:Rep w I α .nilIface .nilIface
 |agg (a:List AV) (a':Array Value) (h1:a.length=a'.size) (h2:∀ (i:Nat) x y,a[i]? =some x→a'[i]? =some y→Rep w I α x y):Rep w I α (.agg a) (.agg a')
 |tuple (a:List AV) (a':Array Value) (h1:a.length=a'.size) (h2:∀ (i:Nat) x y,a[i]? =some x→a'[i]? =some y→Rep w I α x y):Rep w I α (.tuple a) (.tuple a')
theorem nb {es:List AV} {a:Option Addr} {len cap b base:Nat} (hl:es.length=len) (hc:len≤cap) (ha:a=some ⟨b,base,none⟩∨cap=0) (hne:es≠[]):a=some ⟨b,base,none⟩:=by
 rcases ha with h|h0
 ·exact h
 ·exact absurd (List.eq_nil_of_length_eq_zero (by omega)) hne
section
variable {w w':World} {I I':Nat→Prop} {α α':Nat→Option Nat}
theorem Rep.mono {a:AV} {v:Value} (h:Rep w I α a v) (hI:∀b,I b→I' b) (hα:∀id b,α id=some b→α' id=some b)
  (hc:∀b o,I b→w'.cell? ⟨b,o,none⟩=w.cell? ⟨b,o,none⟩) (hs:∀id b,α id=some b→w'.shape? b=w.shape? b):Rep w' I' α' a v:=by
 induction h with
 |bool b=>exact .bool b
 |int k n=>exact .int k n
 |str s b h=>exact .str s b h
 |ptr id off b h=>exact .ptr id off b (hα _ _ h)
 |nilp=>exact .nilp
 |fptr cs off b base g hIb hg hr ih=>exact .fptr cs off b base g (hI _ hIb) (fun j c e=>by rw[hc b _ hIb];exact hg j c e) ih
 |gptr g off=>exact .gptr g off
 |fsl full es a len cap sz b base g hl hcap hf ha hIb hsz hg hr ih=>
  refine .fsl full es a len cap sz b base g hl hcap hf ha (fun h=>hI _ (hIb h)) hsz (fun i e j c h1 h2=> ?_) ih
  have hne:es≠[]:=by intro h;simp[h] at h1
  rw[hc b _ (hIb hne)];exact hg i e j c h1 h2
 |rsl own id off len sz cap b h hcap ho=>exact .rsl own id off len sz cap b (hα _ _ h) hcap (fun he=>by rw[hs _ _ h];exact ho he)
 |nilsl=>exact .nilsl
 |nesl a cap=>exact .nesl a cap
 |map id b h=>exact .map id b (hα _ _ h)
 |nilmap=>exact .nilmap
 |func fn a c a' c' h1 h2 _ _ ih1 ih2=>exact .func fn a c a' c' h1 h2 ih1 ih2
 |nilFunc=>exact .nilFunc
 |iface t v v' _ ih=>exact .iface t v v' ih
 |nilIface=>exact .nilIface
 |agg a a' h1 _ ih=>exact .agg a a' h1 ih
 |tuple a a' h1 _ ih=>exact .tuple a a' h1 ih
end
def RepL (w:World) (I:Nat→Prop) (α:Nat→Option Nat) (a:List AV) (v:List Value):Prop:=
 a.length=v.length∧∀ (i:Nat) x y,a[i]? =some x→v[i]? =some y→Rep w I α x y
section
variable {w:World} {I:Nat→Prop} {α:Nat→Option Nat}
theorem RepL.nil:RepL w I α [] []:=⟨rfl,by simp⟩
theorem RepL.cons {x:AV} {y:Value} {a:List AV} {v:List Value} (h:Rep w I α x y) (t:RepL w I α a v):RepL w I α (x::a) (y::v):=
 ⟨by simp[t.1],fun i x' y' h1 h2=>by
  cases i with
  |zero=>simp at h1 h2;subst h1;subst h2;exact h
  |succ i=>simp at h1 h2;exact t.2 i _ _ h1 h2⟩
theorem RepL.cons_inv {x:AV} {a:List AV} {v:List Value} (h:RepL w I α (x::a) v):∃y v',v=y::v'∧Rep w I α x y∧RepL w I α a v':=by
 match v,h with
 |[],h=>simp[RepL] at h
 |y::v',h=>exact ⟨y,v',rfl,h.2 0 _ _ rfl rfl,⟨by have:=h.1;simpa using this,fun i x' y' h1 h2=>h.2 (i+1) _ _ (by simpa using h1) (by simpa using h2)⟩⟩
theorem RepL.nil_inv {v:List Value} (h:RepL w I α [] v):v=[]:=by
 exact List.eq_nil_of_length_eq_zero (by have:=h.1;simpa using this.symm)
theorem RepL.get {a:List AV} {v:List Value} (h:RepL w I α a v) {i:Nat} {x:AV} (hx:a[i]? =some x):∃y,v[i]? =some y∧Rep w I α x y:=by
 have hi:i<a.length:=by
  rcases Nat.lt_or_ge i a.length with h'|h'
  ·exact h'
  ·simp[List.getElem?_eq_none h'] at hx
 have hi':i<v.length:=by rw[←h.1];exact hi
 exact ⟨v[i],by simp,h.2 i _ _ hx (by simp)⟩
theorem RepL.append {a c:List AV} {v u:List Value} (h:RepL w I α a v) (h':RepL w I α c u):RepL w I α (a++c) (v++u):=by
 refine ⟨by simp[h.1,h'.1],fun i x y h1 h2=> ?_⟩
 by_cases hi:i<a.length
 ·rw[List.getElem?_append_left hi] at h1
  rw[List.getElem?_append_left (by rw[←h.1];exact hi)] at h2
  exact h.2 i _ _ h1 h2
 ·have hi:=Nat.le_of_not_lt hi
  rw[List.getElem?_append_right hi] at h1
  rw[List.getElem?_append_right (by rw[←h.1];exact hi)] at h2
  rw[←h.1] at h2
  exact h'.2 _ _ _ h1 h2
theorem Rep.agg_iff {a:List AV} {v:Value}:Rep w I α (.agg a) v↔∃a',v= .agg a'∧RepL w I α a a'.toList:=by
 constructor
 ·intro h
  cases h with
  |agg _ a' h1 h2=>exact ⟨a',rfl,by simpa using h1,fun i x y e1 e2=>h2 i x y e1 (by simpa using e2)⟩
 ·rintro ⟨a',rfl,h1,h2⟩
  exact .agg a a' (by simpa using h1) (fun i x y e1 e2=>h2 i x y e1 (by simpa using e2))
theorem Rep.tuple_iff {a:List AV} {v:Value}:Rep w I α (.tuple a) v↔∃a',v= .tuple a'∧RepL w I α a a'.toList:=by
 constructor
 ·intro h
  cases h with
  |tuple _ a' h1 h2=>exact ⟨a',rfl,by simpa using h1,fun i x y e1 e2=>h2 i x y e1 (by simpa using e2)⟩
 ·rintro ⟨a',rfl,h1,h2⟩
  exact .tuple a a' (by simpa using h1) (fun i x y e1 e2=>h2 i x y e1 (by simpa using e2))
theorem Rep.func_iff {fn:Fn} {a c:List AV} {v:Value}:Rep w I α (.func fn a c) v↔∃a' c',v= .func fn a' c'∧RepL w I α a a'.toList∧RepL w I α c c'.toList:=by
 constructor
 ·intro h
  cases h with
  |func _ _ _ a' c' h1 h2 h3 h4=>exact ⟨a',c',rfl,⟨by simpa using h1,fun i x y e1 e2=>h3 i x y e1 (by simpa using e2)⟩,⟨by simpa using h2,fun i x y e1 e2=>h4 i x y e1 (by simpa using e2)⟩⟩
 ·rintro ⟨a',c',rfl,⟨h1,h2⟩,⟨h3,h4⟩⟩
  exact .func fn a c a' c' (by simpa using h1) (by simpa using h3) (fun i x y e1 e2=>h2 i x y e1 (by simpa using e2)) (fun i x y e1 e2=>h4 i x y e1 (by simpa using e2))
theorem Rep.cells {a:AV} {v:Value} (h:Rep w I α a v):RepL w I α a.cells v.cells.toList:=by
 cases h with
 |agg a a' h1 h2=>exact ⟨by simpa [AV.cells,Value.cells] using h1,fun i x y e1 e2=>h2 i x y (by simpa [AV.cells] using e1) (by simpa [Value.cells] using e2)⟩
 |_=>exact .cons (by constructor<;>assumption) .nil
theorem Rep.one {a:AV} {v:Value} (h:Rep w I α a v) (ho:a.one=true):v.oneCell'=true:=by
 cases h<;>simp_all [AV.one,Value.oneCell']
end
def BRel (w:World) (I:Nat→Prop) (α:Nat→Option Nat) (b:Nat):Blk→Prop
 | .cells l=>∃c e,w.heap[b]? =some (.cells c e (0,0))∧l.length≤c.size∧RepL w I α l (c.toList.take l.length)
 | .siter s pos=>∃bs,w.heap[b]? =some (.stringIter bs pos)∧bs.data.toList=s
 | .mapb clock st es=>∃en,w.heap[b]? =some (.map en clock)∧es.length=en.size∧st=en.toList.map (·.born)∧
   ∀ (i:Nat) x y,es[i]? =some x→en[i]? =some y→Rep w I α x.1 y.key∧Rep w I α x.2 y.val
 | .miter m since seen last=>∃mb,α m=some mb∧w.heap[b]? =some (.mapIter (some mb) since seen.toArray last)
abbrev aF:=Nat→Option (List AV)
structure Rel (G:aF) (w:World) (I:Nat→Prop) (α:Nat→Option Nat) (H:ab):Prop where
 live:∀id blk,hget H id=some blk→∃b,α id=some b∧¬I b∧BRel w I α b blk
 inj:∀id id' b,hget H id≠none→hget H id'≠none→α id=some b→α id'=some b→id=id'
 imm:∀b,I b→b<w.heap.size
 dom:∀id b,α id=some b→b<w.heap.size
 glob:∀g l,G g=some l→I g∧∀ (j:Nat) x,l[j]? =some x→∃y,w.cell? ⟨g,j,none⟩=some y∧Rep w I α x y
def bD (α:Nat→Option Nat) (H:ab) (b:Nat):Prop:=∃id,hget H id≠none∧α id=some b
def SameOs (w w':World):Prop:=w'.os=w.os∧w'.tape=w.tape∧w'.output=w.output∧w.drawn≤w'.drawn
theorem SameOs.refl (w:World):SameOs w w:=⟨rfl,rfl,rfl,Nat.le_refl _⟩
theorem SameOs.trans {w w' w'':World} (h:SameOs w w') (h':SameOs w' w''):SameOs w w'':=⟨h'.1.trans h.1,h'.2.1.trans h.2.1,h'.2.2.1.trans h.2.2.1,Nat.le_trans h.2.2.2 h'.2.2.2⟩
structure Ev (w:World) (I:Nat→Prop) (α:Nat→Option Nat) (H:ab) (w':World) (I':Nat→Prop) (α':Nat→Option Nat) (H':ab):Prop where
 os:SameOs w w'
 I_mono:∀b,I b→I' b
 α_mono:∀id b,α id=some b→α' id=some b
 size:w.heap.size≤w'.heap.size
 frame:∀b,b<w.heap.size→¬bD α H b→w'.heap[b]? =w.heap[b]?
 shape:∀b,b<w.heap.size→w'.shape? b=w.shape? b
 Inew:∀b,I' b→I b∨w.heap.size≤b∨bD α H b
 own:∀b,bD α' H' b→w.heap.size≤b∨bD α H b
section
variable {G:aF} {w w' w'':World} {I I' I'':Nat→Prop} {α α' α'':Nat→Option Nat} {H H' H'':ab}
theorem Ev.refl:Ev w I α H w I α H:=⟨.refl _,fun _ h=>h,fun _ _ h=>h,Nat.le_refl _,fun _ _ _=>rfl,fun _ _=>rfl,fun _ h=> .inl h,fun _ h=> .inr h⟩
theorem Ev.trans (h1:Ev w I α H w' I' α' H') (h2:Ev w' I' α' H' w'' I'' α'' H''):Ev w I α H w'' I'' α'' H'' where
 os:=h1.os.trans h2.os
 I_mono b h:=h2.I_mono b (h1.I_mono b h)
 α_mono id b h:=h2.α_mono id b (h1.α_mono id b h)
 size:=Nat.le_trans h1.size h2.size
 frame b hb ho:=by
  rw[h2.frame b (Nat.lt_of_lt_of_le hb h1.size) (fun h=>by
   rcases h1.own b h with h|h
   ·omega
   ·exact ho h),h1.frame b hb ho]
 shape b hb:=by rw[h2.shape b (Nat.lt_of_lt_of_le hb h1.size),h1.shape b hb]
 Inew b h:=by
  rcases h2.Inew b h with h|h|h
  ·exact h1.Inew b h
  ·exact .inr (.inl (Nat.le_trans h1.size h))
  ·exact .inr (h1.own b h)
 own b h:=by
  rcases h2.own b h with h|h
  ·exact .inl (Nat.le_trans h1.size h)
  ·exact h1.own b h
theorem Rel.not_owned (r:Rel G w I α H) {b:Nat} (h:I b):¬bD α H b:=by
 rintro ⟨id,h1,h2⟩
 cases hb:hget H id with
 |none=>exact h1 hb
 |some blk=>
  obtain ⟨b',e,hI,_⟩:=r.live id blk hb
  rw[h2] at e;cases e
  exact hI h
theorem Ev.cell (ev:Ev w I α H w' I' α' H') (r:Rel G w I α H) {b:Nat} (o:Nat) (h:I b):w'.cell? ⟨b,o,none⟩=w.cell? ⟨b,o,none⟩:=by
 have:=ev.frame b (r.imm b h) (r.not_owned h)
 simp[World.cell?,this]
theorem Rep.ev {a:AV} {v:Value} (h:Rep w I α a v) (r:Rel G w I α H) (ev:Ev w I α H w' I' α' H'):Rep w' I' α' a v:=
 h.mono ev.I_mono ev.α_mono (fun _ o hb=>ev.cell r o hb) (fun id b hb=>ev.shape b (r.dom id b hb))
theorem RepL.ev {a:List AV} {v:List Value} (h:RepL w I α a v) (r:Rel G w I α H) (ev:Ev w I α H w' I' α' H'):RepL w' I' α' a v:=
 ⟨h.1,fun i x y h1 h2=>(h.2 i x y h1 h2).ev r ev⟩
theorem BRel.ev {b:Nat} {blk:Blk} (h:BRel w I α b blk) (r:Rel G w I α H) (ev:Ev w I α H w' I' α' H') (hb:w'.heap[b]? =w.heap[b]?):BRel w' I' α' b blk:=by
 cases blk with
 |cells l=>obtain ⟨c,e,h1,h2,h3⟩:=h;exact ⟨c,e,by rw[hb,h1],h2,h3.ev r ev⟩
 |siter s pos=>obtain ⟨bs,h1,h2⟩:=h;exact ⟨bs,by rw[hb,h1],h2⟩
 |mapb cl st es=>obtain ⟨en,h1,h2,h4,h3⟩:=h;exact ⟨en,by rw[hb,h1],h2,h4,fun i x y e1 e2=>⟨(h3 i x y e1 e2).1.ev r ev,(h3 i x y e1 e2).2.ev r ev⟩⟩
 |miter m since seen last=>obtain ⟨mb,h1,h2⟩:=h;exact ⟨mb,ev.α_mono m mb h1,by rw[hb,h2]⟩
theorem f8 (r:Rel G w I α H) (ev:Ev w I α H w' I' α' H'):∀g l,G g=some l→I' g∧∀ (j:Nat) x,l[j]? =some x→∃y,w'.cell? ⟨g,j,none⟩=some y∧Rep w' I' α' x y:=by
 intro g l hg
 obtain ⟨h1,h2⟩:=r.glob g l hg
 refine ⟨ev.I_mono g h1,fun j x hx=> ?_⟩
 obtain ⟨y,e,hy⟩:=h2 j x hx
 exact ⟨y,by rw[ev.cell r j h1,e],hy.ev r ev⟩
end
theorem beq_iff {a b:Nat}:Nat.beq a b=true↔a=b:=by simp
theorem beq_false_iff {a b:Nat}:Nat.beq a b=false↔a≠b:=by
 rw[←Bool.not_eq_true,beq_iff]
theorem ka (i:Nat) (b:Option Blk) (t:ab):hget ((i,b)::t) i=b:=by simp[hget]
theorem f9 {i j:Nat} (b:Option Blk) (t:ab) (h:i≠j):hget ((i,b)::t) j=hget t j:=by
 have:Nat.beq i j=false:=beq_false_iff.2 h
 simp only[hget,this]
theorem blt_iff {a b:Nat}:Nat.blt a b=true↔a<b:=by simp
theorem nc {a b:Nat} (h:Nat.blt a b=false):¬a<b:=fun hlt=>by
 rw[blt_iff.2 hlt] at h;cases h
theorem pa {a b:Nat} (h:¬a<b):Nat.blt a b=false:=by
 cases hh:Nat.blt a b with
 |false=>rfl
 |true=>exact absurd (blt_iff.1 hh) h
theorem dE {k i:Nat} (d b:Option Blk) (t:ab) (h:k<i):bU ((k,d)::t) i b=(i,b)::(k,d)::t:=by
 simp only[bU,beq_false_iff.2 (Nat.ne_of_lt h),blt_iff.2 h]
theorem gM (i:Nat) (d b:Option Blk) (t:ab):bU ((i,d)::t) i b=(i,b)::t:=by
 simp[bU]
theorem dc {k i:Nat} (d b:Option Blk) (t:ab) (h:i<k):bU ((k,d)::t) i b=(k,d)::bU t i b:=by
 simp only[bU,beq_false_iff.2 (Nat.ne_of_gt h),pa (Nat.not_lt.2 (Nat.le_of_lt h))]
theorem pb (H:ab) (id:Nat) (b:Option Blk):hget (bU H id b) id=b:=by
 induction H with
 |nil=>exact ka id b []
 |cons p t ih=>
  obtain ⟨i,c⟩:=p
  rcases Nat.lt_trichotomy i id with h|h|h
  ·rw[dE _ _ _ h];exact ka _ _ _
  ·subst h;rw[gM];exact ka _ _ _
  ·rw[dc _ _ _ h,f9 _ _ (by omega),ih]
theorem nd (H:ab) {id id':Nat} (b:Option Blk) (h:id'≠id):hget (bU H id b) id'=hget H id':=by
 induction H with
 |nil=>exact f9 _ _ (Ne.symm h)
 | cons p t ih=>
  obtain ⟨i,c⟩:=p
  rcases Nat.lt_trichotomy i id with h1|h1|h1
  ·rw[dE _ _ _ h1,f9 _ _ (Ne.symm h)]
  ·subst h1;rw[gM,f9 _ _ (Ne.symm h),f9 _ _ (Ne.symm h)]
  ·rw[dc _ _ _ h1]
   by_cases hi:i=id'
   ·subst hi;rw[ka,ka]
   ·rw[f9 _ _ hi,f9 _ _ hi,ih]
theorem Do (H:ab) {i j:Nat} (b c:Option Blk) (h:i≠j):bU (bU H i b) j c=bU (bU H j c) i b:=by
 induction H with
 | nil=>
  rcases Nat.lt_or_gt_of_ne h with h1|h1
  ·show bU [(i,b)] j c=bU [(j,c)] i b
   rw[dE _ _ _ h1,dc _ _ _ h1];rfl
  ·show bU [(i,b)] j c=bU [(j,c)] i b
   rw[dc _ _ _ h1,dE _ _ _ h1];rfl
 | cons p t ih=>
  obtain ⟨k,d⟩:=p
  rcases Nat.lt_trichotomy k i with h1|h1|h1<;>rcases Nat.lt_trichotomy k j with h2|h2|h2
  ·rw[dE _ _ _ h1,dE _ _ _ h2]
   rcases Nat.lt_or_gt_of_ne h with h3|h3
   ·rw[dE _ _ _ h3,dc _ _ _ h3,dE _ _ _ h1]
   ·rw[dc _ _ _ h3,dE _ _ _ h3,dE _ _ _ h2]
  ·subst h2
   rw[dE _ _ _ h1,gM,dc _ _ _ h1,gM,dE _ _ _ h1]
  ·rw[dE _ _ _ h1,dc _ _ _ h2,dc _ _ _ (by omega),dc _ _ _ h2,dE _ _ _ h1]
  ·subst h1
   rw[gM,dE _ _ _ h2,dE _ _ _ h2,dc _ _ _ h2,gM]
  ·omega
  ·subst h1
   rw[gM,dc _ _ _ h2,dc _ _ _ h2,gM]
  ·rw[dc _ _ _ h1,dE _ _ _ h2,dE _ _ _ h2,dc _ _ _ (by omega),dc _ _ _ h1]
  ·subst h2
   rw[dc _ _ _ h1,gM,gM,dc _ _ _ h1]
  ·rw[dc _ _ _ h1,dc _ _ _ h2,dc _ _ _ h2,dc _ _ _ h1,ih]
theorem nf (H:ab) (id:Nat) (b:Blk):hget (aY H id b) id=some b:=pb H id (some b)
theorem cR (H:ab) {id id':Nat} (b:Blk) (h:id'≠id):hget (aY H id b) id'=hget H id':=nd H (some b) h
theorem fb (H:ab) (id:Nat):hget (aZ H id) id=none:=pb H id none
theorem ez (H:ab) {id id':Nat} (h:id'≠id):hget (aZ H id) id'=hget H id':=nd H none h
theorem w7 (n:Nat) (H:ab) (id:Nat):hget (fa n H) id=if id<n then hget H id else none:=by
 induction H with
 |nil=>simp[fa,hget]
 | cons p t ih=>
  obtain ⟨i,c⟩:=p
  simp only[fa]
  split
  ·rename_i h1
   have hi:i<n:=by simpa using h1
   by_cases e:i=id
   ·subst e;rw[ka,ka,if_pos hi]
   ·rw[f9 _ _ e,f9 _ _ e,ih]
  ·rename_i h1
   have hi:¬i<n:=by
    have:¬ (Nat.blt i n=true):=by rw[h1];simp
    simpa using this
   rw[ih]
   by_cases e:i=id
   ·subst e;rw[if_neg hi,if_neg hi]
   ·rw[f9 _ _ e]
end Go.Proofs.Abs
/- What an effect of the short heap means for the model's memory. -/
namespace Go.Proofs.Abs
open Go
def dK (P:Program) (Q:Value→World→Prop):Result Next→Prop
 | .ok (.value v) w=>Q v w
 | .ok .skip w=>Q undef w
 | .ok (.enter f args) w=>Calls P f args w fun e w'=>∃v,e= .returned v∧Q v w'
 |_=>False
theorem w8 {P:Program} {o:Oper} {a:Act} {w:World} {R:Value→World→Prop} {next:Act→World→Prop} {Q:Exit→Act→World→Prop}
    (h:dK P R ((execOp a.eval o).run P w)) (hn:∀v w',R v w'→next (a.put o.dst v) w'):o.wp P a w next Q:=by
  unfold Oper.wp
  generalize (execOp a.eval o).run P w=r at*
  cases r with
  |halt x w'=>exact h.elim
  | ok n w'=>
    cases n<;>first
      |exact hn _ _ h
      |exact h.elim
      | (refine Calls.mono h ?_
         rintro e w'' ⟨v,rfl,hv⟩
         exact hn _ _ hv)
structure Post (G:aF) (w:World) (I:Nat→Prop) (α:Nat→Option Nat) (H:ab) (rid nx:Nat) (av:AV) (H':ab) (nx':Nat) (v:Value) (w':World):Prop where
 ex:∃I' α',Ev w I α H w' I' α' H'∧Rel G w' I' α' H'∧Rep w' I' α' av v∧(∀id,α' id≠none→α id≠none∨id=rid∨(nx≤id∧id<nx'))
 le:nx≤nx'
def bo (P:Program) (G:aF) (call:aI):Prop:=
 ∀ f args rid H nx v H' nx' ft,call f args rid H nx=some (v,H',nx',ft)→
  ∀w I α (vs:Array Value),Rel G w I α H→RepL w I α args vs.toList→α rid=none→rid<nx→(∀id,nx≤id→α id=none)→
   dK P (Post G w I α H rid nx v H' nx') ((callFunc f vs).run P w)
structure Ctx (P:Program) (G:aF) (call:aI) (w:World) (I:Nat→Prop) (α:Nat→Option Nat) (H:ab) (rid nx:Nat):Prop where
 rel:Rel G w I α H
 hrid:α rid=none
 lt:rid<nx
 fresh:∀id,nx≤id→α id=none
 call:bo P G call
def cS (P:Program) (G:aF) (call:aI) (w:World) (I:Nat→Prop) (α:Nat→Option Nat) (H:ab) (rid nx:Nat) (m:Result Next) (e:Eff):Prop:=
 ∀d v H' nx' ft,aM call rid d e H nx=some (v,H',nx',ft)→dK P (Post G w I α H rid nx v H' nx') m
def upd (α:Nat→Option Nat) (id b:Nat):Nat→Option Nat:=fun i=>if i=id then some b else α i
theorem cM (α:Nat→Option Nat) (id b:Nat):upd α id b id=some b:=by simp[upd]
theorem bQ (α:Nat→Option Nat) {id i:Nat} (b:Nat) (h:i≠id):upd α id b i=α i:=by simp[upd,h]
section
variable {P:Program} {G:aF} {call:aI} {w:World} {I:Nat→Prop} {α:Nat→Option Nat} {H:ab} {rid nx:Nat}
theorem w9 {v:AV} {v':Value} (r:Rel G w I α H) (h:Rep w I α v v'):Post G w I α H rid nx v H nx v' w:=
 ⟨⟨I,α,.refl,r,h,fun _ h=> .inl h⟩,Nat.le_refl _⟩
theorem eQ {m:Result Next} {v:AV} {v':Value} (c:Ctx P G call w I α H rid nx) (hm:m= .ok (.value v') w) (h:Rep w I α v v'):
  cS P G call w I α H rid nx m (.val v):=by
 intro d u H' nx' ft he
 cases d<;>(simp only[aM,Option.some.injEq,Prod.mk.injEq] at he;obtain ⟨rfl,rfl,rfl,rfl⟩:=he;rw[hm];exact w9 c.rel h)
theorem fJ {m:Result Next} {id:Nat} {k:Blk→Option Eff} (c:Ctx P G call w I α H rid nx)
  (h:∀blk b e,hget H id=some blk→α id=some b→BRel w I α b blk→k blk=some e→cS P G call w I α H rid nx m e):
  cS P G call w I α H rid nx m (.read id k):=by
 intro d u H' nx' ft he
 cases d with
 |zero=>simp[aM] at he
 | succ d=>
  simp only[aM] at he
  split at he
  ·rename_i blk hb
   split at he
   ·rename_i e hk
    split at he
    ·rename_i v h' n' f' hr
     simp only[Option.some.injEq,Prod.mk.injEq] at he
     obtain ⟨rfl,rfl,rfl,rfl⟩:=he
     obtain ⟨b,hα,_,hB⟩:=c.rel.live id blk hb
     exact h blk b e hb hα hB hk d _ _ _ _ hr
    ·simp at he
   ·simp at he
  ·simp at he
theorem sw {m:Result Next} {f:FuncId} {args:List AV} {vs:Array Value} (c:Ctx P G call w I α H rid nx)
  (hm:m=(callFunc f vs).run P w) (h:RepL w I α args vs.toList):cS P G call w I α H rid nx m (.call f args):=by
 intro d u H' nx' ft he
 have:call f args rid H nx=some (u,H',nx',ft):=by cases d<;>simpa [aM] using he
 rw[hm]
 exact c.call f args rid H nx u H' nx' ft this w I α vs c.rel h c.hrid c.lt c.fresh
theorem pd {w':World} (h:w'.heap=w.heap) (hos:SameOs w w':=by first|assumption|exact ⟨rfl,rfl,rfl,Nat.le_refl _⟩|exact ⟨rfl,rfl,rfl,Nat.le_succ _⟩):Ev w I α H w' I α H:=
 ⟨hos,fun _ h=>h,fun _ _ h=>h,by rw[h];exact Nat.le_refl _,fun _ _ _=>by rw[h],fun _ _=>by simp[World.shape?,h],fun _ h=> .inl h,fun _ h=> .inr h⟩
theorem Dp {w':World} (h:w'.heap=w.heap) (r:Rel G w I α H) (hos:SameOs w w':=by first|assumption|exact ⟨rfl,rfl,rfl,Nat.le_refl _⟩|exact ⟨rfl,rfl,rfl,Nat.le_succ _⟩):Rel G w' I α H where
 live id blk hb:=by
  obtain ⟨b,h1,h2,h3⟩:=r.live id blk hb
  exact ⟨b,h1,h2,h3.ev r (pd h) (by rw[h])⟩
 inj:=r.inj
 imm b hb:=by rw[h];exact r.imm b hb
 dom id b hb:=by rw[h];exact r.dom id b hb
 glob:=f8 r (pd h)
theorem pe {w':World} {o:Obj} (h:w'.heap=w.heap.push o) {b:Nat} (hb:b<w.heap.size):w'.heap[b]? =w.heap[b]? :=by
 rw[h,Array.getElem?_push];simp[Nat.ne_of_lt hb]
theorem xa {w':World} {o:Obj} (h:w'.heap=w.heap.push o):w'.heap[w.heap.size]? =some o:=by
 rw[h];simp
theorem gN {w':World} {o:Obj} (h:w'.heap=w.heap.push o) (I':Nat→Prop) (hI:∀b,I b→I' b) (hN:∀b,I' b→I b∨b=w.heap.size) (hos:SameOs w w':=by first|assumption|exact ⟨rfl,rfl,rfl,Nat.le_refl _⟩|exact ⟨rfl,rfl,rfl,Nat.le_succ _⟩):Ev w I α H w' I' α H:=
 ⟨hos,hI,fun _ _ h=>h,by rw[h];simp,fun b hb _=>pe h hb,fun b hb=>by simp[World.shape?,pe h hb],fun b hb=>by
  rcases hN b hb with h'|h'
  ·exact .inl h'
  ·exact .inr (.inl (Nat.le_of_eq h'.symm)),fun b hb=> .inr hb⟩
theorem xb {w':World} {o:Obj} (h:w'.heap=w.heap.push o) (I':Nat→Prop) (hI:∀b,I b→I' b) (hN:∀b,I' b→I b∨b=w.heap.size) (r:Rel G w I α H) (hos:SameOs w w':=by first|assumption|exact ⟨rfl,rfl,rfl,Nat.le_refl _⟩|exact ⟨rfl,rfl,rfl,Nat.le_succ _⟩):Rel G w' I' α H where
 live id blk hb:=by
  obtain ⟨b,h1,h2,h3⟩:=r.live id blk hb
  have hlt:=r.dom id b h1
  refine ⟨b,h1,fun hb'=> ?_,h3.ev r (gN h I' hI hN) (pe h hlt)⟩
  rcases hN b hb' with h'|h'
  ·exact h2 h'
  ·omega
 inj:=r.inj
 imm b hb:=by
  rw[h];simp
  rcases hN b hb with h'|h'
  ·have:=r.imm b h';omega
  ·omega
 dom id b hb:=by rw[h];simp;have:=r.dom id b hb;omega
 glob:=f8 r (gN h I' hI hN)
theorem sx {w':World} {o:Obj} {blk:Blk} {v:AV} {v':Value} (c:Ctx P G call w I α H rid nx) (h:w'.heap=w.heap.push o)
  (hB:∀α',(∀id b,α id=some b→α' id=some b)→Rel G w' I α' H→BRel w' I α' w.heap.size blk)
  (hv:∀α',α' rid=some w.heap.size→Rep w' I α' v v') (hos:SameOs w w':=by first|assumption|exact ⟨rfl,rfl,rfl,Nat.le_refl _⟩|exact ⟨rfl,rfl,rfl,Nat.le_succ _⟩):Post G w I α H rid nx v (aY H rid blk) nx v' w':=by
 have hm:∀id b,α id=some b→upd α rid w.heap.size id=some b:=fun id b hb=>by
  rw[bQ];exact hb
  intro e;subst e;rw[c.hrid] at hb;cases hb
 have hrid:hget H rid=none:=by
  cases hh:hget H rid with
  |none=>rfl
  |some blk=>obtain ⟨b,h1,_⟩:=c.rel.live rid blk hh;rw[c.hrid] at h1;cases h1
 have ev0:Ev w I α H w' I (upd α rid w.heap.size) H:=by
  have:=gN (α:=α) (H:=H) h I (fun _ h=>h) (fun _ h=> .inl h)
  refine ⟨this.os,this.I_mono,hm,this.size,this.frame,this.shape,this.Inew,fun b hb=> ?_⟩
  obtain ⟨id,h1,h2⟩:=hb
  by_cases e:id=rid
  ·subst e;rw[hrid] at h1;exact absurd rfl h1
  ·rw[bQ _ _ e] at h2;exact .inr ⟨id,h1,h2⟩
 have ev:Ev w I α H w' I (upd α rid w.heap.size) (aY H rid blk):=by
  refine ⟨ev0.os,ev0.I_mono,ev0.α_mono,ev0.size,ev0.frame,ev0.shape,ev0.Inew,fun b hb=> ?_⟩
  obtain ⟨id,h1,h2⟩:=hb
  by_cases e:id=rid
  ·subst e;rw[cM] at h2;cases h2;exact .inl (Nat.le_refl _)
  ·rw[cR _ _ e] at h1;rw[bQ _ _ e] at h2;exact .inr ⟨id,h1,h2⟩
 have rel0:Rel G w' I (upd α rid w.heap.size) H:=
  {live:=fun id blk hb=>by
    obtain ⟨b,h1,h2,h3⟩:=c.rel.live id blk hb
    exact ⟨b,hm _ _ h1,h2,h3.ev c.rel ev0 (pe h (c.rel.dom id b h1))⟩
   inj:=fun id id' b h1 h2 h3 h4=>by
    have e1:id≠rid:=fun e=>by subst e;exact h1 hrid
    have e2:id'≠rid:=fun e=>by subst e;exact h2 hrid
    rw[bQ _ _ e1] at h3;rw[bQ _ _ e2] at h4
    exact c.rel.inj id id' b h1 h2 h3 h4
   imm:=fun b hb=>by rw[h];simp;have:=c.rel.imm b hb;omega
   dom:=fun id b hb=>by
    rw[h];simp
    by_cases e:id=rid
    ·subst e;rw[cM] at hb;cases hb;omega
    ·rw[bQ _ _ e] at hb;have:=c.rel.dom id b hb;omega
   glob:=f8 c.rel ev0}
 have rel:Rel G w' I (upd α rid w.heap.size) (aY H rid blk):=
  {live:=fun id blk' hb=>by
    by_cases e:id=rid
    ·subst e;rw[nf] at hb;cases hb
     exact ⟨_,cM _ _ _,fun hI=>by have:=c.rel.imm _ hI;omega,hB _ hm rel0⟩
    ·rw[cR _ _ e] at hb;exact rel0.live id blk' hb
   inj:=fun id id' b h1 h2 h3 h4=>by
    by_cases e1:id=rid
    ·subst e1;rw[cM] at h3;cases h3
     by_cases e2:id'=id
     ·exact e2.symm
     ·rw[bQ _ _ e2] at h4;have:=c.rel.dom _ _ h4;omega
    ·rw[bQ _ _ e1] at h3
     by_cases e2:id'=rid
     ·subst e2;rw[cM] at h4;cases h4;have:=c.rel.dom _ _ h3;omega
     ·rw[bQ _ _ e2] at h4
      rw[cR _ _ e1] at h1;rw[cR _ _ e2] at h2
      exact c.rel.inj id id' b h1 h2 h3 h4
   imm:=rel0.imm
   dom:=rel0.dom
   glob:=rel0.glob}
 refine ⟨⟨I,upd α rid w.heap.size,ev,rel,hv _ (cM _ _ _),fun id hid=> ?_⟩,Nat.le_refl _⟩
 by_cases e:id=rid
 ·exact .inr (.inl e)
 ·rw[bQ _ _ e] at hid;exact .inl hid
theorem ng {m:Result Next} {w':World} {o:Obj} {blk:Blk} {k:Nat→AV} {v':Value} (c:Ctx P G call w I α H rid nx) (hm:m= .ok (.value v') w') (h:w'.heap=w.heap.push o)
  (hB:∀α',(∀id b,α id=some b→α' id=some b)→Rel G w' I α' H→BRel w' I α' w.heap.size blk)
  (hv:∀α',α' rid=some w.heap.size→Rep w' I α' (k rid) v') (hos:SameOs w w':=by first|assumption|exact ⟨rfl,rfl,rfl,Nat.le_refl _⟩|exact ⟨rfl,rfl,rfl,Nat.le_succ _⟩):cS P G call w I α H rid nx m (.new blk k):=by
 intro d u H' nx' ft he
 have:u=k rid∧H'=aY H rid blk∧nx'=nx:=by cases d<;>(simp only[aM,Option.some.injEq,Prod.mk.injEq] at he;obtain ⟨rfl,rfl,rfl,_⟩:=he;exact ⟨rfl,rfl,rfl⟩)
 obtain ⟨rfl,rfl,rfl⟩:=this
 rw[hm]
 exact sx c h hB hv
theorem sy {m:Result Next} {w':World} {o:Obj} {v:AV} {v':Value} (c:Ctx P G call w I α H rid nx) (hm:m= .ok (.value v') w') (h:w'.heap=w.heap.push o)
  (hv:∀I',(∀b,I b→I' b)→I' w.heap.size→Rel G w' I' α H→Ev w I α H w' I' α H→Rep w' I' α v v') (hos:SameOs w w':=by first|assumption|exact ⟨rfl,rfl,rfl,Nat.le_refl _⟩|exact ⟨rfl,rfl,rfl,Nat.le_succ _⟩):cS P G call w I α H rid nx m (.val v):=by
 intro d u H' nx' ft he
 have:u=v∧H'=H∧nx'=nx:=by cases d<;>(simp only[aM,Option.some.injEq,Prod.mk.injEq] at he;obtain ⟨rfl,rfl,rfl,_⟩:=he;exact ⟨rfl,rfl,rfl⟩)
 obtain ⟨rfl,rfl,rfl⟩:=this
 rw[hm]
 have hI:∀b,I b→(fun b=>I b∨b=w.heap.size) b:=fun b h=> .inl h
 exact ⟨⟨fun b=>I b∨b=w.heap.size,α,gN h _ hI (fun _ h=>h),xb h _ hI (fun _ h=>h) c.rel,hv _ hI (.inr rfl) (xb h _ hI (fun _ h=>h) c.rel) (gN h _ hI (fun _ h=>h)),fun _ h=> .inl h⟩,Nat.le_refl _⟩
theorem xc {w':World} {id b:Nat} {blk:Blk} (c:Ctx P G call w I α H rid nx) (hg:hget H id=some blk) (hα:α id=some b)
    (hs:w'.heap.size=w.heap.size) (ho:∀k,k≠b→w'.heap[k]? =w.heap[k]?) (hsh:w'.shape? b=w.shape? b) (hos:SameOs w w':=by first|assumption|exact ⟨rfl,rfl,rfl,Nat.le_refl _⟩|exact ⟨rfl,rfl,rfl,Nat.le_succ _⟩):
    Rel G w' I α (aZ H id)∧Ev w I α H w' I α (aZ H id):=by
  have evd:Ev w I α H w' I α (aZ H id):=
    ⟨hos,fun _ h=>h,fun _ _ h=>h,by omega,fun k _ hk=>ho k (fun e=>hk ⟨id,by rw[hg];simp,e▸hα⟩),fun k _=>by
      by_cases e:k=b
      · rw[e,hsh]
      · simp[World.shape?,ho k e],fun _ h=> .inl h,fun k hk=>by
      obtain ⟨i,h1,h2⟩:=hk
      by_cases e:i=id
      · subst e;rw[fb] at h1;exact absurd rfl h1
      · rw[ez _ e] at h1;exact .inr ⟨i,h1,h2⟩⟩
  have hother:∀i blk0,i≠id→hget H i=some blk0→∃k,α i=some k∧¬I k∧BRel w' I α k blk0∧k≠b:=fun i blk0 hne hi=>by
    obtain ⟨k,h1,h2,h3⟩:=c.rel.live i blk0 hi
    have hkb:k≠b:=fun e=>hne (c.rel.inj i id b (by rw[hi];simp) (by rw[hg];simp) (e▸h1) hα)
    exact ⟨k,h1,h2,h3.ev c.rel evd (ho k hkb),hkb⟩
  exact ⟨{ live :=fun i blk0 hi=>by
            by_cases e:i=id
            · subst e;rw[fb] at hi;cases hi
            · rw[ez _ e] at hi
              obtain ⟨k,h1,h2,h3,_⟩:=hother i blk0 e hi
              exact ⟨k,h1,h2,h3⟩
           inj:=fun i j k h1 h2 h3 h4=>by
            by_cases e:i=id
            · subst e;rw[fb] at h1;exact absurd rfl h1
            · by_cases e':j=id
              · subst e';rw[fb] at h2;exact absurd rfl h2
              · rw[ez _ e] at h1;rw[ez _ e'] at h2
                exact c.rel.inj i j k h1 h2 h3 h4
           imm:=fun k hk=>by rw[hs];exact c.rel.imm k hk
           dom:=fun i k hk=>by rw[hs];exact c.rel.dom i k hk
           glob:=f8 c.rel evd},evd⟩
theorem xe {w':World} {id b:Nat} {blk blk':Blk} (c:Ctx P G call w I α H rid nx) (hg:hget H id=some blk) (hα:α id=some b)
  (hs:w'.heap.size=w.heap.size) (ho:∀k,k≠b→w'.heap[k]? =w.heap[k]?) (hsh:w'.shape? b=w.shape? b)
  (hB:Rel G w' I α (aZ H id)→Ev w I α H w' I α (aZ H id)→BRel w' I α b blk') (hos:SameOs w w':=by first|assumption|exact ⟨rfl,rfl,rfl,Nat.le_refl _⟩|exact ⟨rfl,rfl,rfl,Nat.le_succ _⟩):Ev w I α H w' I α (aY H id blk')∧Rel G w' I α (aY H id blk')∧Rel G w' I α (aZ H id)∧Ev w I α H w' I α (aZ H id):=by
 obtain ⟨reld,evd⟩:=xc c hg hα hs ho hsh
 have hnI:¬I b:=by
  obtain ⟨b',h1,h2,_⟩:=c.rel.live id blk hg
  rw[hα] at h1;cases h1;exact h2
 have rel:Rel G w' I α (aY H id blk'):=
  {live:=fun i blk0 hi=>by
    by_cases e:i=id
    ·subst e;rw[nf] at hi;cases hi;exact ⟨b,hα,hnI,hB reld evd⟩
    ·rw[cR _ _ e] at hi
     exact reld.live i blk0 (by rw[ez _ e];exact hi)
   inj:=fun i j k h1 h2 h3 h4=>by
    refine c.rel.inj i j k ?_ ?_ h3 h4
    ·by_cases e:i=id
     ·subst e;rw[hg];simp
     ·rw[cR _ _ e] at h1;exact h1
    ·by_cases e:j=id
     ·subst e;rw[hg];simp
     ·rw[cR _ _ e] at h2;exact h2
   imm:=reld.imm
   dom:=reld.dom
   glob:=reld.glob}
 have ev:Ev w I α H w' I α (aY H id blk'):=
  ⟨evd.os,evd.I_mono,evd.α_mono,evd.size,evd.frame,evd.shape,evd.Inew,fun k hk=>by
   obtain ⟨i,h1,h2⟩:=hk
   by_cases e:i=id
   ·subst e;exact .inr ⟨i,by rw[hg];simp,h2⟩
   ·rw[cR _ _ e] at h1;exact .inr ⟨i,h1,h2⟩⟩
 exact ⟨ev,rel,reld,evd⟩
theorem BRel.monoI {I':Nat→Prop} {k:Nat} {bk:Blk} (h:BRel w I α k bk) (hI:∀b,I b→I' b):BRel w I' α k bk:=by
 have mono:∀ {a:AV} {u:Value},Rep w I α a u→Rep w I' α a u:=fun h=>h.mono hI (fun _ _ h=>h) (fun _ _ _=>rfl) (fun _ _ _=>rfl)
 cases bk with
 |cells l=>obtain ⟨cc,e,h1,h2,h3⟩:=h;exact ⟨cc,e,h1,h2,h3.1,fun i x y e1 e2=>mono (h3.2 i x y e1 e2)⟩
 |siter s p=>exact h
 |mapb cl st es=>obtain ⟨en,h1,h2,h4,h3⟩:=h;exact ⟨en,h1,h2,h4,fun i x y e1 e2=>⟨mono (h3 i x y e1 e2).1,mono (h3 i x y e1 e2).2⟩⟩
 |miter m since seen last=>exact h
theorem Dq {w':World} {id b:Nat} {blk:Blk} {v:AV} {v':Value} (c:Ctx P G call w I α H rid nx) (hg:hget H id=some blk) (hα:α id=some b)
  (hs:w'.heap.size=w.heap.size) (ho:∀k,k≠b→w'.heap[k]? =w.heap[k]?) (hsh:w'.shape? b=w.shape? b)
  (hv:∀I',(∀k,I k→I' k)→I' b→Ev w I α H w' I' α (aZ H id)→Rep w' I' α v v') (hos:SameOs w w':=by first|assumption|exact ⟨rfl,rfl,rfl,Nat.le_refl _⟩|exact ⟨rfl,rfl,rfl,Nat.le_succ _⟩):Post G w I α H rid nx v (aZ H id) nx v' w':=by
 obtain ⟨reld,evd⟩:=xc c hg hα hs ho hsh
 have hI:∀k,I k→(fun k=>I k∨k=b) k:=fun k h=> .inl h
 have ev:Ev w I α H w' (fun k=>I k∨k=b) α (aZ H id):=
  ⟨evd.os,hI,evd.α_mono,evd.size,evd.frame,evd.shape,fun k hk=>by
   rcases hk with hk|rfl
   ·exact .inl hk
   ·exact .inr (.inr ⟨id,by rw[hg];simp,hα⟩),evd.own⟩
 have rel:Rel G w' (fun k=>I k∨k=b) α (aZ H id):=
  {live:=fun i blk0 hi=>by
    have hid:i≠id:=fun e=>by subst e;rw[fb] at hi;cases hi
    obtain ⟨k,h1,h2,h3⟩:=reld.live i blk0 hi
    refine ⟨k,h1,fun hk=> ?_,h3.monoI hI⟩
    rcases hk with hk|rfl
    ·exact h2 hk
    ·rw[ez _ hid] at hi
     exact hid (c.rel.inj i id k (by rw[hi];simp) (by rw[hg];simp) h1 hα)
   inj:=reld.inj
   imm:=fun k hk=>by
    rcases hk with hk|rfl
    ·exact reld.imm k hk
    ·exact reld.dom id k hα
   dom:=reld.dom
   glob:=fun g l hg'=>by
    obtain ⟨h1,h2⟩:=reld.glob g l hg'
    exact ⟨.inl h1,fun j x hx=>let ⟨y,e,hy⟩:=h2 j x hx;⟨y,e,hy.mono hI (fun _ _ h=>h) (fun _ _ _=>rfl) (fun _ _ _=>rfl)⟩⟩}
 exact ⟨⟨_,α,ev,rel,hv _ hI (.inr rfl) ev,fun _ h=> .inl h⟩,Nat.le_refl _⟩
theorem Dr {m:Result Next} {id:Nat} {k:Blk→Option AV} (c:Ctx P G call w I α H rid nx)
  (h:∀blk b v,hget H id=some blk→α id=some b→BRel w I α b blk→k blk=some v→dK P (Post G w I α H rid nx v (aZ H id) nx) m):
  cS P G call w I α H rid nx m (.shut id k):=by
 intro d u H' nx' ft he
 have:∃blk,hget H id=some blk∧k blk=some u∧H'=aZ H id∧nx'=nx:=by
  cases d<;>
  ·simp only[aM] at he
   split at he
   ·rename_i blk hb
    split at he
    ·rename_i v hk
     simp only[Option.some.injEq,Prod.mk.injEq] at he
     obtain ⟨rfl,rfl,rfl,_⟩:=he
     exact ⟨blk,hb,hk,rfl,rfl⟩
    ·simp at he
   ·simp at he
 obtain ⟨blk,hb,hk,rfl,rfl⟩:=this
 obtain ⟨b,hα,_,hB⟩:=c.rel.live id blk hb
 exact h blk b u hb hα hB hk
theorem kb {w':World} {id b:Nat} {blk blk':Blk} {v:AV} {v':Value} (c:Ctx P G call w I α H rid nx) (hg:hget H id=some blk) (hα:α id=some b)
  (hs:w'.heap.size=w.heap.size) (ho:∀k,k≠b→w'.heap[k]? =w.heap[k]?) (hsh:w'.shape? b=w.shape? b)
  (hB:Rel G w' I α (aZ H id)→Ev w I α H w' I α (aZ H id)→BRel w' I α b blk') (hv:Rel G w' I α (aZ H id)→Ev w I α H w' I α (aZ H id)→Rep w' I α v v') (hos:SameOs w w':=by first|assumption|exact ⟨rfl,rfl,rfl,Nat.le_refl _⟩|exact ⟨rfl,rfl,rfl,Nat.le_succ _⟩):Post G w I α H rid nx v (aY H id blk') nx v' w':=
 let ⟨ev,rel,reld,evd⟩:=xe c hg hα hs ho hsh hB
 ⟨⟨I,α,ev,rel,hv reld evd,fun _ h=> .inl h⟩,Nat.le_refl _⟩
theorem lx {m:Result Next} {id:Nat} {k:Blk→Option (Blk × AV)} (c:Ctx P G call w I α H rid nx)
  (h:∀blk b blk' v,hget H id=some blk→α id=some b→BRel w I α b blk→k blk=some (blk',v)→dK P (Post G w I α H rid nx v (aY H id blk') nx) m):
  cS P G call w I α H rid nx m (.upd id k):=by
 intro d u H' nx' ft he
 have:∃blk blk',hget H id=some blk∧k blk=some (blk',u)∧H'=aY H id blk'∧nx'=nx:=by
  cases d<;>
  ·simp only[aM] at he
   split at he
   ·rename_i blk hb
    split at he
    ·rename_i blk' v hk
     simp only[Option.some.injEq,Prod.mk.injEq] at he
     obtain ⟨rfl,rfl,rfl,_⟩:=he
     exact ⟨blk,blk',hb,hk,rfl,rfl⟩
    ·simp at he
   ·simp at he
 obtain ⟨blk,blk',hb,hk,rfl,rfl⟩:=this
 obtain ⟨b,hα,_,hB⟩:=c.rel.live id blk hb
 exact h blk b blk' u hb hα hB hk
theorem Ds {m:Result Next} {id:Nat} {k:Blk→Option (Blk × (Nat→AV))} (c:Ctx P G call w I α H rid nx)
  (h:∀blk b blk' v,hget H id=some blk→α id=some b→BRel w I α b blk→k blk=some (blk',v)→dK P (Post G w I α H rid nx (v rid) (aY (aZ H id) rid blk') nx) m):
  cS P G call w I α H rid nx m (.repl id k):=by
 intro d u H' nx' ft he
 have:∃blk blk' v,hget H id=some blk∧k blk=some (blk',v)∧u=v rid∧H'=aY (aZ H id) rid blk'∧nx'=nx:=by
  cases d<;>
  ·simp only[aM] at he
   split at he
   ·rename_i blk hb
    split at he
    ·rename_i blk' v hk
     simp only[Option.some.injEq,Prod.mk.injEq] at he
     obtain ⟨rfl,rfl,rfl,_⟩:=he
     exact ⟨blk,blk',v,hb,hk,rfl,rfl,rfl⟩
    ·simp at he
   ·simp at he
 obtain ⟨blk,blk',v,hb,hk,rfl,rfl,rfl⟩:=this
 obtain ⟨b,hα,_,hB⟩:=c.rel.live id blk hb
 exact h blk b blk' v hb hα hB hk
theorem pg (r:Rel G w I α H) (id:Nat):Rel G w I α (aZ H id) where
 live i blk hi:=by
  by_cases e:i=id
  ·subst e;rw[fb] at hi;cases hi
  ·rw[ez _ e] at hi;exact r.live i blk hi
 inj i j k h1 h2 h3 h4:=by
  by_cases e:i=id
  ·subst e;rw[fb] at h1;exact absurd rfl h1
  ·by_cases e':j=id
   ·subst e';rw[fb] at h2;exact absurd rfl h2
   ·rw[ez _ e] at h1;rw[ez _ e'] at h2
    exact r.inj i j k h1 h2 h3 h4
 imm:=r.imm
 dom:=r.dom
 glob:=r.glob
theorem Du (id:Nat):Ev w I α H w I α (aZ H id):=
 ⟨.refl _,fun _ h=>h,fun _ _ h=>h,Nat.le_refl _,fun _ _ _=>rfl,fun _ _=>rfl,fun _ h=> .inl h,fun b hb=>by
  obtain ⟨i,h1,h2⟩:=hb
  by_cases e:i=id
  ·subst e;rw[fb] at h1;exact absurd rfl h1
  ·rw[ez _ e] at h1;exact .inr ⟨i,h1,h2⟩⟩
end
end Go.Proofs.Abs
/- Small laws: lists, rows of cells, types; each operation that looks at values alone. -/
namespace Go.Proofs.Abs
open Go
theorem eA {α:Type}:∀ (l:List α) (i:Nat),cg l i=l[i]?
 |[],_=>by simp[cg]
 |_::_,0=>rfl
 |_::t,i+1=>by simpa [cg] using eA t i
theorem aC {α:Type}:∀ (l:List α),ac l=l.length
 |[]=>rfl
 |_::t=>by simp[ac,aC t]
theorem xf {α:Type}:∀ (l:List α) (i:Nat) (x:α),mM l i x=l.set i x
 |[],_,_=>by simp[mM]
 |_::_,0,_=>rfl
 |a::t,i+1,x=>by simpa [mM] using xf t i x
theorem jc:∀ (l:List AV) (o n:Nat) (c:List AV),chunk l o n=some c→c=(l.drop o).take n∧c.length=n∧(n=0∨o+n≤l.length)
 |l,o,0,c,h=>by cases l<;>simp[chunk] at h<;>subst h<;>simp
 |[],_,n+1,_,h=>by simp[chunk] at h
 |a::t,0,n+1,c,h=>by
  simp only[chunk,Option.map_eq_some_iff] at h
  obtain ⟨c',h1,rfl⟩:=h
  obtain ⟨e1,e2,e3⟩:=jc t 0 n c' h1
  refine ⟨by simp at e1⊢;exact e1,by simp[e2],.inr (by simp;omega)⟩
 |a::t,o+1,n+1,c,h=>by
  simp only[chunk] at h
  obtain ⟨e1,e2,e3⟩:=jc t o (n+1) c h
  exact ⟨by simpa using e1,e2,.inr (by simp;omega)⟩
theorem ga:∀ (l:List AV) (o:Nat) (vs l':List AV),splice l o vs=some l'→l'=l.take o++vs++l.drop (o+vs.length)∧(vs=[]∨o+vs.length≤l.length)
 |l,o,[],l',h=>by cases l<;>simp[splice] at h<;>subst h<;>simp
 |[],_,_::_,_,h=>by simp[splice] at h
 |a::t,0,v::vs,l',h=>by
  simp only[splice,Option.map_eq_some_iff] at h
  obtain ⟨c,h1,rfl⟩:=h
  obtain ⟨e1,e2⟩:=ga t 0 vs c h1
  refine ⟨by simp at e1⊢;exact e1,.inr ?_⟩
  rcases e2 with e2|e2
  ·subst e2;simp
  ·simp at e2⊢;omega
 |a::t,o+1,v::vs,l',h=>by
  simp only[splice,Option.map_eq_some_iff] at h
  obtain ⟨c,h1,rfl⟩:=h
  obtain ⟨e1,e2⟩:=ga t o (v::vs) c h1
  refine ⟨by rw[e1];simp[show o+1+(vs.length+1)=o+(vs.length+1)+1 by omega],.inr ?_⟩
  rcases e2 with e2|e2
  ·cases e2
  ·simp at e2⊢;omega
theorem Dv {l:List AV} {o:Nat} {vs l':List AV} (h:splice l o vs=some l'):l'.length=l.length:=by
 obtain ⟨e1,e2⟩:=ga l o vs l' h
 rw[e1]
 rcases e2 with e2|e2
 ·subst e2;simp
 ·simp;omega
section
variable {P:Program} {w:World} {I:Nat→Prop} {α:Nat→Option Nat}
theorem xg {v:Value} {a:AV} (h:oT v=some a):Rep w I α a v:=by
 unfold oT at h
 split at h<;>simp at h<;>subst h
 ·exact .bool _
 ·exact .int _ _
 ·exact .str _ _ rfl
 ·exact .nilp
 ·exact .nilsl
 ·exact .nilmap
 ·exact .nilFunc
 ·exact .nilIface
theorem xh:∀ {vs:List Value} {l:List AV},mN vs=some l→RepL w I α l vs
 |[],l,h=>by simp[mN] at h;subst h;exact .nil
 | v::vs,l,h=>by
  simp only[mN] at h
  split at h
  ·rename_i a ha
   split at h
   ·rename_i l' hl
    simp at h;subst h
    exact .cons (xg ha) (xh hl)
   ·simp at h
  ·simp at h
theorem fc {v:Value} {a:AV} (h:ofValue v=some a):Rep w I α a v:=by
 unfold ofValue at h
 split at h
 ·split at h
  ·rename_i l hl
   simp at h;subst h
   exact Rep.agg_iff.2 ⟨_,rfl,xh hl⟩
  ·simp at h
 ·split at h
  ·rename_i hl
   simp at h;subst h
   exact Rep.tuple_iff.2 ⟨_,rfl,by rw[hl];exact .nil⟩
  ·simp at h
 ·exact xg h
theorem aE {t:TypeId} {d:TypeDesc} (h:P.underlying t=some d):(underlying t).run P w= .ok d w:=by
 simp[underlying,h]
theorem fe {t:TypeId} {i:TypeInfo} (h:P.info? t=some i):(typeInfo t).run P w= .ok i w:=by
 simp[typeInfo,h]
theorem sA {t:TypeId} {n:Nat} (h:bC P t=some n):∃i,P.info? t=some i∧i.size=n:=by
 simpa [bC,Option.map_eq_some_iff] using h
theorem cN {t:TypeId} {n:Nat} (h:bC P t=some n):(sizeOf t).run P w= .ok n w:=by
 obtain ⟨i,h1,rfl⟩:=sA h
 simp[sizeOf,fe h1]
theorem ph {t:TypeId} {b:Bool} (h:eg P t=some b):(isAgg t).run P w= .ok b w:=by
 simp only[eg,Option.map_eq_some_iff] at h
 obtain ⟨d,h1,rfl⟩:=h
 simp only[isAgg,Sem.run_bind,aE h1,Result.andThen_ok]
 cases d<;>rfl
theorem gb {t:TypeId} {z:AV} (h:dp P t=some z):∃i v,P.info? t=some i∧i.zero=some v∧ofValue v=some z:=by
 unfold dp at h
 cases h1:P.info? t with
 |none=>simp[h1] at h
 |some i=>
  cases h2:i.zero with
  |none=>simp[h1,h2] at h
  |some v=>exact ⟨i,v,rfl,h2,by simpa [h1,h2] using h⟩
theorem gg {t:TypeId} {i:TypeInfo} {v:Value} (h:P.info? t=some i) (h2:i.zero=some v):(zeroValue t).run P w= .ok v w:=by
 simp[zeroValue,fe h,h2]
def Row (w:World) (I:Nat→Prop) (α:Nat→Option Nat) (b base:Nat) (cs:List AV):Prop:=
 ∀ (j:Nat) c,cs[j]? =some c→∃y,w.cell? ⟨b,base+j,none⟩=some y∧Rep w I α c y
theorem add_lit (b o n:Nat):(⟨b,o,none⟩:Addr).add n=⟨b,o+n,none⟩:=by
 unfold Addr.add;split<;>simp_all
theorem Row.chunk {b base:Nat} {cs:List AV} (h:Row w I α b base cs) {off n:Nat} {c:List AV} (hc:chunk cs off n=some c):
  ∃vs:List Value,vs.length=n∧(loadCells ⟨b,base+off,none⟩ n).run P w= .ok vs.toArray w∧RepL w I α c vs:=by
 obtain ⟨e1,e2,e3⟩:=jc _ _ _ _ hc
 have hget:∀j,j<n→∃x y,c[j]? =some x∧w.cell? ⟨b,base+off+j,none⟩=some y∧Rep w I α x y:=fun j hj=>by
  have hlt:off+j<cs.length:=by omega
  obtain ⟨y,h1,h2⟩:=h (off+j) cs[off+j] (by simp[hlt])
  refine ⟨cs[off+j],y, ?_,by rw[Nat.add_assoc];exact h1,h2⟩
  rw[e1,List.getElem?_take_of_lt hj,List.getElem?_drop];simp[hlt]
 let f:Nat→Value:=fun j=>(w.cell? ⟨b,base+off+j,none⟩).getD undef
 refine ⟨(List.range n).map f,by simp, ?_,⟨by simp[e2],fun i x y h1 h2=> ?_⟩⟩
 ·exact run_loadCells w _ n f (fun j hj=>by
   rw[add_lit]
   obtain ⟨x,y,_,h2,_⟩:=hget j hj
   simp[f,h2])
 ·have hi:i<n:=by
   rcases Nat.lt_or_ge i n with h'|h'
   ·exact h'
   ·rw[List.getElem?_eq_none (by omega)] at h1;cases h1
  obtain ⟨x',y',e1',e2',hr⟩:=hget i hi
  rw[e1'] at h1;cases h1
  simp[hi,f,e2'] at h2
  subst h2
  exact hr
theorem Row.part {b base:Nat} {cs:List AV} (h:Row w I α b base cs) {t:TypeId} {off:Nat} {v:AV} (hv:ch P t cs off=some v):
  ∃v',(loadVar t ⟨b,base+off,none⟩).run P w= .ok v' w∧Rep w I α v v':=by
 unfold ch at hv
 split at hv
 ·rename_i ha
  split at hv
  ·rename_i n hn
   simp only[Option.map_eq_some_iff] at hv
   obtain ⟨c,hc,rfl⟩:=hv
   obtain ⟨vs,h1,h2,h3⟩:=h.chunk (P:=P) hc
   exact ⟨.agg vs.toArray,by simp[loadVar,ph ha,cN hn,h2],Rep.agg_iff.2 ⟨_,rfl,by simpa using h3⟩⟩
  ·simp at hv
 ·rename_i ha
  rw[eA] at hv
  obtain ⟨y,h1,h2⟩:=h off v hv
  exact ⟨y,by simp[loadVar,ph ha,h1],h2⟩
 ·simp at hv
theorem RepL.part {cs:List AV} {vs:List Value} (h:RepL w I α cs vs) {t:TypeId} {off:Nat} {v:AV} (hv:ch P t cs off=some v):
  ∃v',(part t vs.toArray off).run P w= .ok v' w∧Rep w I α v v':=by
 unfold ch at hv
 split at hv
 ·rename_i ha
  split at hv
  ·rename_i n hn
   simp only[Option.map_eq_some_iff] at hv
   obtain ⟨c,hc,rfl⟩:=hv
   obtain ⟨e1,e2,e3⟩:=jc _ _ _ _ hc
   refine ⟨.agg (vs.toArray.extract off (off+n)),by simp[Go.part,ph ha,cN hn],Rep.agg_iff.2 ⟨_,rfl, ?_⟩⟩
   have e4:(vs.toArray.extract off (off+n)).toList=(vs.drop off).take n:=by
    simp[List.extract_eq_take_drop]
   rw[e4]
   refine ⟨by rw[e1];simp[h.1],fun i x y h1 h2=> ?_⟩
   have hi:i<n:=by
    rcases Nat.lt_or_ge i n with h'|h'
    ·exact h'
    ·rw[List.getElem?_eq_none (by omega)] at h1;cases h1
   rw[e1,List.getElem?_take_of_lt hi,List.getElem?_drop] at h1
   rw[List.getElem?_take_of_lt hi,List.getElem?_drop] at h2
   exact h.2 _ _ _ h1 h2
  ·simp at hv
 ·rename_i ha
  rw[eA] at hv
  obtain ⟨y,h1,h2⟩:=h.get hv
  exact ⟨y,by simp[Go.part,ph ha,h1],h2⟩
 ·simp at hv
theorem BRel.row {b:Nat} {l:List AV} (h:BRel w I α b (.cells l)):Row w I α b 0 l:=by
 obtain ⟨c,e,h1,h2,h3⟩:=h
 intro j x hx
 have hj:j<l.length:=by
  rcases Nat.lt_or_ge j l.length with h'|h'
  ·exact h'
  ·rw[List.getElem?_eq_none h'] at hx;cases hx
 have hjc:j<c.size:=by omega
 refine ⟨c[j],by simp[World.cell?,h1,hjc],h3.2 j x _ hx ?_⟩
 rw[List.getElem?_take_of_lt hj];simp[hjc]
theorem Rep.fptr_row {cs:List AV} {off:Nat} {v:Value} (h:Rep w I α (.fptr cs off) v):∃b base,v= .pointer (some ⟨b,base+off,none⟩)∧I b∧Row w I α b base cs:=by
 cases h with
 |fptr _ _ b base g hI hg hr=>exact ⟨b,base,rfl,hI,fun j c hc=>⟨g j,hg j c hc,hr j c hc⟩⟩
theorem Rep.fsl_elem {full:Bool} {es:List AV} {v:Value} (h:Rep w I α (.fsl full es) v) {sz:Nat} {i:Nat} {e:AV} (he:es[i]? =some e) (hsz:e.cells.length=sz):
  ∃b base len cap,v= .slice (some ⟨b,base,none⟩) len cap∧len=es.length∧I b∧Row w I α b (base+i*sz) e.cells:=by
 cases h with
 |fsl _ _ a len cap sz' b base g hl hc hf ha hI hs hg hr=>
  have hne:es≠[]:=by intro h;simp[h] at he
  have:sz'=sz:=by rw[←hs e (List.mem_of_getElem? he),hsz]
  subst this
  exact ⟨b,base,len,cap,by rw[nb hl hc ha hne],hl.symm,hI hne,fun j c hc'=>⟨g i j,hg i e j c he hc',hr i e j c he hc'⟩⟩
end
end Go.Proofs.Abs
/- Each operation that looks at values, or loads: what it yields. -/
namespace Go.Proofs.Abs
open Go
def ff (w:World) (I:Nat→Prop) (α:Nat→Option Nat) (s:Tr) (tmps:Array Value):Prop:=
 ∀t v,s.get t=some v→∃y,tmps[t]? =some y∧Rep w I α v y
section
variable {P:Program} {G:aF} {call:aI} {w:World} {I:Nat→Prop} {α:Nat→Option Nat} {H:ab} {rid nx:Nat}
theorem be {s:Tr} {a:Act} {x:Operand} {v:AV} (hs:ff w I α s a.tmps) (h:aS s x=some v):Rep w I α v (a.eval x):=by
 cases x with
 |tmp t=>
  obtain ⟨y,h1,h2⟩:=hs t v h
  simp[Act.eval,h1];exact h2
 |const c=>exact fc h
 |global g=>simp[aS] at h;subst h;exact .gptr g 0
 |func f=>simp[aS] at h;subst h;exact Rep.func_iff.2 ⟨#[], #[],rfl,by simpa using RepL.nil,by simpa using RepL.nil⟩
theorem pj {s:Tr} {a:Act} (hs:ff w I α s a.tmps):∀ {l:List Operand} {vs:List AV},eN (aS s) l=some vs→RepL w I α vs (l.map a.eval)
 |[],vs,h=>by simp[eN] at h;subst h;exact .nil
 | x::l,vs,h=>by
  simp only[eN] at h
  split at h
  ·rename_i v hv
   simp only[Option.map_eq_some_iff] at h
   obtain ⟨us,h1,rfl⟩:=h
   exact .cons (be hs hv) (pj hs h1)
  ·simp at h
def cy (P:Program) (G:aF) (call:aI) (w:World) (I:Nat→Prop) (α:Nat→Option Nat) (H:ab) (rid nx:Nat) (s:Sem Value) (e:Eff):Prop:=
 cS P G call w I α H rid nx ((s.run P w).andThen fun v w'=> .ok (.value v) w') e
def pk (P:Program) (G:aF) (call:aI) (w:World) (I:Nat→Prop) (α:Nat→Option Nat) (H:ab) (rid nx:Nat) (s:Sem Unit) (e:Eff):Prop:=
 cS P G call w I α H rid nx ((s.run P w).andThen fun _ w'=> .ok .skip w') e
theorem bH {s:Sem Value} {v:AV} {v':Value} (c:Ctx P G call w I α H rid nx) (hm:s.run P w= .ok v' w) (h:Rep w I α v v'):cy P G call w I α H rid nx s (.val v):=
 eQ c (by rw[hm];rfl) h
theorem hJ (k:IntKind) (n:Int):az k n=k.wrap n:=by
 cases k<;>cases n<;>simp only[az]
 ·split
  ·rename_i m h
   have h:=Nat.le_of_ble_eq_true h
   rw[IntWalk.i64_in _ ⟨by simp only[Int.ofNat_eq_natCast];omega,by simp only[Int.ofNat_eq_natCast];omega⟩]
  ·rfl
 ·split
  ·rename_i m h
   have h:=Nat.le_of_ble_eq_true h
   rw[IntWalk.i64_in _ ⟨by simp only[Int.negSucc_eq];omega,by simp only[Int.negSucc_eq];omega⟩]
  ·rfl
 ·split
  ·rename_i m h
   have h:=Nat.le_of_ble_eq_true h
   rw[IntWalk.u8_in _ ⟨by simp only[Int.ofNat_eq_natCast];omega,by simp only[Int.ofNat_eq_natCast];omega⟩]
  ·rfl
 ·split
  ·rename_i m h
   have h:=Nat.le_of_ble_eq_true h
   rw[IntWalk.u32_in _ ⟨by simp only[Int.ofNat_eq_natCast];omega,by simp only[Int.ofNat_eq_natCast];omega⟩]
  ·rfl
 ·split
  ·rename_i m h
   have h:=Nat.le_of_ble_eq_true h
   rw[IntWalk.u64_in _ ⟨by simp only[Int.ofNat_eq_natCast];omega,by simp only[Int.ofNat_eq_natCast];omega⟩]
  ·rfl
theorem hU (a b:Int):ah a b=(a==b):=by
 cases a<;>cases b<;>simp[ah]<;>(rw[Bool.eq_iff_iff];simp;try omega)
theorem gO (a b:Int):au a b=decide (a<b):=by
 cases a<;>cases b<;>simp only[au]<;>rw[Bool.eq_iff_iff]<;>simp<;>omega
theorem ly:∀ (a b:List UInt8),ag a b=(a==b)
 |[],[]=>rfl
 |[],_::_=>rfl
 |_::_,[]=>rfl
 | a::x,b::y=>by
  simp only[ag]
  split
  ·rename_i h
   have:a=b:=UInt8.toNat_inj.1 (beq_iff.1 h)
   subst this
   rw[ly x y];simp
  ·rename_i h
   have:a≠b:=fun e=>beq_false_iff.1 h (by rw[e])
   simp[this]
theorem xi:∀ (a b:List UInt8),eM a b=Op.bytesLess a b
 |x,[]=>by cases x<;>simp[eM,Op.bytesLess]
 |[],_::_=>by simp[eM,Op.bytesLess]
 | a::x,b::y=>by
  simp only[eM,Op.bytesLess]
  split
  ·rename_i h
   have:a<b:=by rw[UInt8.lt_iff_toNat_lt];simpa using h
   simp[this]
  ·rename_i h
   have h1:¬a<b:=by
    rw[UInt8.lt_iff_toNat_lt]
    have:¬ (Nat.blt a.toNat b.toNat=true):=by rw[h];simp
    simpa using this
   split
   ·rename_i h2
    have:a=b:=UInt8.toNat_inj.1 (beq_iff.1 h2)
    subst this
    rw[xi x y];simp
   ·rename_i h2
    have:a≠b:=fun e=>beq_false_iff.1 h2 (by rw[e])
    simp[h1,this]
theorem sB {n m:Nat} (ih:∀ (t:TypeId) (x y:AV) (x' y':Value) (r:Bool),Rep w I α x x'→Rep w I α y y'→c9 P n t x y=some r→(Op.equalIn m t x' y').run P w= .ok r w):
  ∀ (fs:List Field) (xs ys:List AV) (xs' ys':List Value) (r:Bool),RepL w I α xs xs'→RepL w I α ys ys'→g5 P (c9 P n) fs xs ys=some r→
   (Op.eqFields m xs'.toArray ys'.toArray fs).run P w= .ok r w
 |[],_,_,_,_,r,_,_,h=>by simp[g5] at h;subst h;rfl
 | f ::fs,xs,ys,xs',ys',r,hx,hy,h=>by
  simp only[g5] at h
  split at h
  ·rename_i hn
   have hn:f.name= "_" :=by simpa using hn
   simp only[Op.eqFields,hn,ne_eq,not_true_eq_false,if_false]
   exact sB ih fs xs ys xs' ys' r hx hy h
  ·rename_i hn
   have hn:f.name≠ "_" :=by simpa using hn
   split at h
   ·rename_i a b ha hb
    obtain ⟨a',ra,ha'⟩:=hx.part (P:=P) ha
    obtain ⟨b',rb,hb'⟩:=hy.part (P:=P) hb
    simp only[Op.eqFields,ne_eq,hn,not_false_eq_true,if_true,Sem.run_bind,ra,rb,Result.andThen_ok]
    split at h
    ·rename_i he
     rw[ih _ _ _ _ _ _ ha' hb' he]
     simp only[Result.andThen_ok,Bool.not_true,Bool.false_eq_true,if_false]
     exact sB ih fs xs ys xs' ys' r hx hy h
    ·rename_i he
     rw[ih _ _ _ _ _ _ ha' hb' he]
     simp at h;subst h
     rfl
    ·simp at h
   ·simp at h
theorem xj {n m:Nat} (ih:∀ (t:TypeId) (x y:AV) (x' y':Value) (r:Bool),Rep w I α x x'→Rep w I α y y'→c9 P n t x y=some r→(Op.equalIn m t x' y').run P w= .ok r w) {e:TypeId} {sz:Nat} {xs ys:List AV} {xs' ys':List Value} (hx:RepL w I α xs xs') (hy:RepL w I α ys ys'):
  ∀ (is:List Nat) (r:Bool),iY P (c9 P n) e sz xs ys is=some r→(Op.eqItems m e sz xs'.toArray ys'.toArray is).run P w= .ok r w
 |[],r,h=>by simp[iY] at h;subst h;rfl
 | i::is,r,h=>by
  simp only[iY] at h
  split at h
  ·rename_i a b ha hb
   obtain ⟨a',ra,ha'⟩:=hx.part (P:=P) ha
   obtain ⟨b',rb,hb'⟩:=hy.part (P:=P) hb
   simp only[Op.eqItems,Sem.run_bind,ra,rb,Result.andThen_ok]
   split at h
   ·rename_i he
    rw[ih _ _ _ _ _ _ ha' hb' he]
    simpa using xj ih hx hy is r h
   ·rename_i he
    rw[ih _ _ _ _ _ _ ha' hb' he]
    simp at h;subst h
    simp
   ·simp at h
  ·simp at h
set_option maxHeartbeats 1600000 in
theorem pm:∀ (n m:Nat),n≤m→∀ (t:TypeId) (x y:AV) (x' y':Value) (r:Bool),Rep w I α x x'→Rep w I α y y'→c9 P n t x y=some r→(Op.equalIn m t x' y').run P w= .ok r w
  |0,_,_,_,_,_,_,_,_,_,_,h=>by simp[c9] at h
  |n+1,0,hn,_,_,_,_,_,_,_,_,_=>by omega
  | n + 1, m +1,hn,t,x,y,x',y',r,hx,hy,h=>by
    unfold c9 at h
    split at h
    case h_4 fs xs ys ht=>
      obtain ⟨xs',rfl,hx'⟩:=Rep.agg_iff.1 hx
      obtain ⟨ys',rfl,hy'⟩:=Rep.agg_iff.1 hy
      split at h
      · simp at h
      · rename_i hst
        have hf:P.fieldsOf t=fs:=by simp[Program.fieldsOf,ht]
        rw[run_equalIn_struct w m t xs' ys' (by rw[hf];exact ht) (by simpa using hst),hf]
        exact sB (pm n m (by omega)) fs.toList xs ys xs'.toList ys'.toList r hx' hy' h
    case h_22 k e xs ys ht=>
      obtain ⟨xs',rfl,hx'⟩:=Rep.agg_iff.1 hx
      obtain ⟨ys',rfl,hy'⟩:=Rep.agg_iff.1 hy
      split at h
      · rename_i sz hsz
        simp only[bC,Option.map_eq_some_iff] at hsz
        obtain ⟨i,hi,hsz⟩:=hsz
        have hc:P.cellsOf e=sz:=by simp[Program.cellsOf,hi,hsz]
        rw[run_equalIn_array w m xs' ys' ht hi,hc]
        exact xj (pm n m (by omega)) hx' hy' _ r h
      · simp at h
    case h_23 ms t1 a t2 b ht=>
      cases hx with
      | iface _ _ _ hx=>cases hy with
        | iface _ _ _ hy=>
          split at h
          · rename_i e
            have e:=Nat.eq_of_beq_eq_true e
            subst e
            split at h
            · rename_i i hi
              split at h
              · rename_i hc
                have:=pm n m (by omega) t1 a b _ _ r hx hy h
                simp[Op.equalIn,aE ht,fe hi,hc,this]
              · simp at h
            · simp at h
          · rename_i e
            have e:=Nat.ne_of_beq_eq_false e
            simp only[Option.some.injEq] at h;subst h
            simp[Op.equalIn,aE ht,e]
    case h_2 ht=>
      cases hx;cases hy
      split at h
      · rename_i e;subst e;simp only[Option.some.injEq] at h;subst h
        simp[Op.equalIn,aE ht,hU]
      · simp at h
    case h_3 ht=>
      cases hx with
      | str _ b hb=>cases hy with
        | str _ b' hb'=>
          simp only[Option.some.injEq] at h;subst h
          rw[run_equalIn_string w m t b b' ht,ByteArray.toList_eq,ByteArray.toList_eq,hb,hb',ly]
    all_goals first
      | (rename_i ht
         cases hx with
         | fsl _ _ a len cap sz b base g hl hc hf ha hI hs hg hr=>
           have ha':a=some ⟨b,base,none⟩:=by
             rcases ha with ha|⟨_,h0⟩
             · exact ha
             · exfalso;simp at hl;omega
           clear ha hI hs hg hr
           subst ha'
           cases hy;simp only[Option.some.injEq] at h;subst h
           simp[Op.equalIn,aE ht];done)
      |(rename_i ht;cases hx;cases hy;simp only[Option.some.injEq] at h;subst h;simp[Op.equalIn,aE ht];done)
      |(simp at h;done)
end
end Go.Proofs.Abs
/- Operations on values, loads, new variables. -/
namespace Go.Proofs.Abs
open Go
section
variable {P:Program} {G:aF} {call:aI} {w:World} {I:Nat→Prop} {α:Nat→Option Nat} {H:ab} {rid nx:Nat}
theorem Dw {t:TypeId} {x y:AV} {x' y':Value} {r:Bool} (hx:Rep w I α x x') (hy:Rep w I α y y') (h:c9 P 16 t x y=some r):
  (Op.equal t x' y').run P w= .ok r w:=pm 16 10000 (by omega) t x y x' y' r hx hy h
theorem Dx {op:BinOp} {t:TypeId} {xo yo:Operand} {k k':IntKind} {a b:Int} {v:AV} (h:aU P op t xo yo (.int k a) (.int k' b)=some v):
  ∃v',(do eqGuard op t xo yo (.int k a) (.int k' b);binOp op t (.int k a) (.int k' b):Sem Value).run P w= .ok v' w∧Rep w I α v v':=by
 have hg:(eqGuard op t xo yo (.int k a) (.int k' b)).run P w= .ok () w:=by cases op<;>simp[eqGuard]
 simp only[Sem.run_bind,hg,Result.andThen_ok]
 cases op
 case shl=>
  simp only[aU,gO] at h
  split at h
  ·simp at h
  ·rename_i hb
   simp at h hb;subst h
   refine ⟨_, ?_,.int _ _⟩
   rw[hJ]
   simp[binOp,Op.shift,Int.not_lt.2 hb]
 case shr=>
  simp only[aU,gO] at h
  split at h
  ·simp at h
  ·rename_i hb
   simp at h hb;subst h
   refine ⟨_, ?_,.int _ _⟩
   simp[binOp,Op.shift,Int.not_lt.2 hb]
 all_goals
  have hk:k=k':=Decidable.by_contra fun hne=>by simp[aU,hne] at h
  subst hk
  simp only[aU,ne_eq,not_true_eq_false,if_false] at h
 case quo=>
  rw[hU] at h
  split at h
  ·simp at h
  ·rename_i hb
   simp at hb h;subst h
   refine ⟨_, ?_,.int _ _⟩
   rw[hJ]
   simp[binOp,Op.intDiv,hb]
 case rem=>
  rw[hU] at h
  split at h
  ·simp at h
  ·rename_i hb
   simp at hb h;subst h
   refine ⟨_, ?_,.int _ _⟩
   simp[binOp,Op.intDiv,hb]
 case eql=>simp only[Option.some.injEq] at h;subst h;exact ⟨_,by simp[binOp,Op.intCmp,hU],.bool _⟩
 case neq=>simp only[Option.some.injEq] at h;subst h;exact ⟨_,by simp[binOp,Op.intCmp,hU];rfl,.bool _⟩
 case lss=>simp only[Option.some.injEq] at h;subst h;exact ⟨_,by simp[binOp,Op.intCmp,gO],.bool _⟩
 case leq=>simp only[Option.some.injEq] at h;subst h;exact ⟨_,by simp[binOp,Op.intCmp,gO];rw[Bool.eq_iff_iff];simp,.bool _⟩
 case gtr=>simp only[Option.some.injEq] at h;subst h;exact ⟨_,by simp[binOp,Op.intCmp,gO],.bool _⟩
 case geq=>simp only[Option.some.injEq] at h;subst h;exact ⟨_,by simp[binOp,Op.intCmp,gO];rw[Bool.eq_iff_iff];simp,.bool _⟩
 all_goals first
  |(simp at h;done)
  |(simp only[Option.some.injEq] at h;subst h;exact ⟨_,by simp[binOp,Op.intArith,Op.intBits,hJ],.int _ _⟩)
theorem Dy {op:BinOp} {t:TypeId} {xo yo:Operand} {a b:List UInt8} {a' b':ByteArray} {v:AV} (ha:a'.data.toList=a) (hb:b'.data.toList=b)
  (h:aU P op t xo yo (.str a) (.str b)=some v):
  ∃v',(do eqGuard op t xo yo (.string a') (.string b');binOp op t (.string a') (.string b'):Sem Value).run P w= .ok v' w∧Rep w I α v v':=by
 have hg:(eqGuard op t xo yo (.string a') (.string b')).run P w= .ok () w:=by cases op<;>simp[eqGuard]
 simp only[Sem.run_bind,hg,Result.andThen_ok]
 have la:a'.toList=a:=by rw[ByteArray.toList_eq,ha]
 have lb:b'.toList=b:=by rw[ByteArray.toList_eq,hb]
 have sa:a'.size=a.length:=by rw[←ha];exact Array.length_toList.symm
 have sb:b'.size=b.length:=by rw[←hb];exact Array.length_toList.symm
 cases op<;>simp only[aU] at h
 case add=>
  split at h
  ·rename_i hc
   simp only[Option.some.injEq] at h;subst h
   refine ⟨.string (a'++b'), ?_,.str _ _ (by rw[ByteArray.data_append,Array.toList_append,ha,hb])⟩
   have hc':=Nat.le_of_ble_eq_true hc
   rw[aC,aC] at hc'
   have:¬ (((a'.size+b'.size:Nat):Int)>IntKind.i64.max):=by
    have:IntKind.i64.max=9223372036854775807:=by decide
    rw[this,sa,sb];omega
   simp only[binOp,Op.stringOp,if_neg this]
   rfl
  ·simp at h
 all_goals first
  |(simp at h;done)
  |(simp only[Option.some.injEq] at h;subst h;exact ⟨_,by simp[binOp,Op.stringOp,la,lb,ly,xi]<;>rfl,.bool _⟩)
theorem Rep.int_inv {x:AV} {k:IntKind} {n:Int} (h:Rep w I α x (.int k n)):x= .int k n:=by cases h;rfl
theorem Rep.str_inv {x:AV} {s:ByteArray} (h:Rep w I α x (.string s)):∃l,x= .str l:=by cases h;exact ⟨_,rfl⟩
theorem Rep.float_inv {x:AV} {k:FloatKind} {n:Nat} (h:Rep w I α x (.float k n)):False:=by cases h
theorem Rep.complex_inv {x:AV} {k:FloatKind} {n m:Nat} (h:Rep w I α x (.complex k n m)):False:=by cases h
theorem Rep.agg_inv {x:AV} {a:Array Value} (h:Rep w I α x (.agg a)):∃l,x= .agg l:=by cases h;exact ⟨_,rfl⟩
theorem Rep.nilIface_inv {x:AV} (h:Rep w I α x .nilIface):x= .nilIface:=by cases h;rfl
theorem Dz {t:TypeId} {x y:AV} {x' y':Value} (hx:Rep w I α x x') (hy:Rep w I α y y')
  (hi:¬ ((∃k a,x= .int k a)∧(∃k a,y= .int k a))) (hs:¬ ((∃a,x= .str a)∧(∃a,y= .str a))):
  (binOp .eql t x' y').run P w=((Op.equal t x' y').run P w).andThen fun b w'=> .ok (.bool b) w':=by
 unfold binOp
 split<;>first
  |(exact absurd ⟨⟨_,_,hx.int_inv⟩,⟨_,_,hy.int_inv⟩⟩ hi)
  |(exact hx.float_inv.elim)
  |(exact hx.complex_inv.elim)
  |(exact absurd ⟨hx.str_inv,hy.str_inv⟩ hs)
  |simp_all
theorem DA {t:TypeId} {x y:AV} {x' y':Value} (hx:Rep w I α x x') (hy:Rep w I α y y')
  (hi:¬ ((∃k a,x= .int k a)∧(∃k a,y= .int k a))) (hs:¬ ((∃a,x= .str a)∧(∃a,y= .str a))):
  (binOp .neq t x' y').run P w=((Op.equal t x' y').run P w).andThen fun b w'=> .ok (.bool (!b)) w':=by
 unfold binOp
 split<;>first
  |(exact absurd ⟨⟨_,_,hx.int_inv⟩,⟨_,_,hy.int_inv⟩⟩ hi)
  |(exact hx.float_inv.elim)
  |(exact hx.complex_inv.elim)
  |(exact absurd ⟨hx.str_inv,hy.str_inv⟩ hs)
  |simp_all
theorem xk {op:BinOp} {t:TypeId} {xo yo:Operand} {x y:AV} {x' y':Value} (hx:Rep w I α x x') (hy:Rep w I α y y')
  (h1:¬ ((∃l,x= .agg l)∧(∃l,y= .agg l))) (h2:¬ (x= .nilIface∧y= .nilIface)):(eqGuard op t xo yo x' y').run P w= .ok () w:=by
 have key:∀op,op= .eql∨op= .neq→(eqGuard op t xo yo x' y').run P w= .ok () w:=by
  intro op hop
  cases x' with
  |nilIface=>
   have e1:=hx.nilIface_inv
   cases y' with
   |nilIface=>exact absurd ⟨e1,hy.nilIface_inv⟩ h2
   |_=>rcases hop with rfl|rfl<;>simp[eqGuard]
  |agg l=>
   have e1:=hx.agg_inv
   cases y' with
   |agg l'=>exact absurd ⟨e1,hy.agg_inv⟩ h1
   |_=>rcases hop with rfl|rfl<;>simp[eqGuard]
  |_=>rcases hop with rfl|rfl<;>simp[eqGuard]
 cases op<;>first
  |exact key _ (.inl rfl)
  |exact key _ (.inr rfl)
  |simp[eqGuard]
theorem DB {op:BinOp} {t:TypeId} {xo yo:Operand} {x y:AV} {x' y':Value} {v:AV} (hx:Rep w I α x x') (hy:Rep w I α y y')
  (h:aU P op t xo yo x y=some v):
  ∃v',(do eqGuard op t xo yo x' y';binOp op t x' y':Sem Value).run P w= .ok v' w∧Rep w I α v v':=by
 by_cases hi:(∃k a,x= .int k a)∧(∃k a,y= .int k a)
 ·obtain ⟨⟨k,a,rfl⟩,⟨k',b,rfl⟩⟩:=hi
  cases hx;cases hy
  exact Dx h
 by_cases hs:(∃a,x= .str a)∧(∃a,y= .str a)
 ·obtain ⟨⟨a,rfl⟩,⟨b,rfl⟩⟩:=hs
  cases hx with
  |str _ a' ha=>cases hy with
   |str _ b' hb=>exact Dy ha hb h
 have heq:∀ (r:Bool),c9 P 16 t x y=some r→(op= .eql∧v= .bool r∨op= .neq∧v= .bool (!r))→(eqGuard op t xo yo x' y').run P w= .ok () w→
   ∃v',(do eqGuard op t xo yo x' y';binOp op t x' y':Sem Value).run P w= .ok v' w∧Rep w I α v v':=by
  intro r hr hop hg
  have hrun:=Dw hx hy hr
  rcases hop with ⟨rfl,rfl⟩|⟨rfl,rfl⟩
  ·refine ⟨.bool r, ?_,.bool _⟩
   simp only[Sem.run_bind,hg,Result.andThen_ok]
   rw[Dz hx hy hi hs,hrun];rfl
  ·refine ⟨.bool (!r), ?_,.bool _⟩
   simp only[Sem.run_bind,hg,Result.andThen_ok]
   rw[DA hx hy hi hs,hrun];rfl
 unfold aU at h
 split at h
 ·exact absurd ⟨⟨_,_,rfl⟩,⟨_,_,rfl⟩⟩ hi
 ·exact absurd ⟨⟨_,_,rfl⟩,⟨_,_,rfl⟩⟩ hi
 ·exact absurd ⟨⟨_,_,rfl⟩,⟨_,_,rfl⟩⟩ hi
 ·exact absurd ⟨⟨_,rfl⟩,⟨_,rfl⟩⟩ hs
 ·split at h
  ·simp at h
  ·rename_i hgd
   simp only[Option.map_eq_some_iff] at h
   obtain ⟨r,hr,rfl⟩:=h
   obtain ⟨xs',rfl,_⟩:=Rep.agg_iff.1 hx
   obtain ⟨ys',rfl,_⟩:=Rep.agg_iff.1 hy
   exact heq r hr (.inl ⟨rfl,rfl⟩) (run_eqGuard_agg w _ t _ _ _ _ (by simpa using hgd))
 ·split at h
  ·simp at h
  ·rename_i hgd
   simp only[Option.map_eq_some_iff] at h
   obtain ⟨r,hr,rfl⟩:=h
   obtain ⟨xs',rfl,_⟩:=Rep.agg_iff.1 hx
   obtain ⟨ys',rfl,_⟩:=Rep.agg_iff.1 hy
   exact heq r hr (.inr ⟨rfl,rfl⟩) (run_eqGuard_agg w _ t _ _ _ _ (by simpa using hgd))
 ·split at h
  ·rename_i hc
   simp only[Option.map_eq_some_iff] at h
   obtain ⟨r,hr,rfl⟩:=h
   cases hx;cases hy
   refine heq r hr (.inl ⟨rfl,rfl⟩) ?_
   rcases Bool.or_eq_true_iff.1 hc with hc|hc<;>(unfold kU at hc;split at hc<;>first|(simp at hc;done)|simp[eqGuard])
  ·simp at h
 ·split at h
  ·rename_i hc
   simp only[Option.map_eq_some_iff] at h
   obtain ⟨r,hr,rfl⟩:=h
   cases hx;cases hy
   refine heq r hr (.inr ⟨rfl,rfl⟩) ?_
   rcases Bool.or_eq_true_iff.1 hc with hc|hc<;>(unfold kU at hc;split at hc<;>first|(simp at hc;done)|simp[eqGuard])
  ·simp at h
 ·rename_i h1 h2
  simp only[Option.map_eq_some_iff] at h
  obtain ⟨r,hr,rfl⟩:=h
  refine heq r hr (.inl ⟨rfl,rfl⟩) (xk hx hy ?_ ?_)
  ·rintro ⟨⟨l,rfl⟩,⟨l',rfl⟩⟩;exact (h1 _ _ rfl rfl).elim
  ·rintro ⟨rfl,rfl⟩;exact (h2 rfl rfl).elim
 ·rename_i h1 h2
  simp only[Option.map_eq_some_iff] at h
  obtain ⟨r,hr,rfl⟩:=h
  refine heq r hr (.inr ⟨rfl,rfl⟩) (xk hx hy ?_ ?_)
  ·rintro ⟨⟨l,rfl⟩,⟨l',rfl⟩⟩;exact (h1 _ _ rfl rfl).elim
  ·rintro ⟨rfl,rfl⟩;exact (h2 rfl rfl).elim
 ·simp at h
theorem DC {op:UnOp} {x:AV} {x':Value} {v:AV} (hx:Rep w I α x x') (h:r4 op x=some v):∃v',(Op.unary op x').run P w= .ok v' w∧Rep w I α v v':=by
 unfold r4 at h
 split at h
 ·cases hx;simp at h;subst h;exact ⟨_,by simp[Op.unary,Op.intArith,hJ],.int _ _⟩
 ·cases hx;simp only[Option.some.injEq] at h;subst h;exact ⟨_,by simp[Op.unary,Op.intBits,hJ],.int _ _⟩
 ·cases hx;simp at h;subst h;exact ⟨_,by simp[Op.unary],.bool _⟩
 ·simp at h
end
end Go.Proofs.Abs
/- Loads, addresses, parts, aggregates, new variables. -/
namespace Go.Proofs.Abs
open Go
section
variable {P:Program} {G:aF} {call:aI} {w:World} {I:Nat→Prop} {α:Nat→Option Nat} {H:ab} {rid nx:Nat}
theorem DD {t:TypeId} {x:AV} {x':Value} {e:Eff} (c:Ctx P G call w I α H rid nx) (hx:Rep w I α x x') (h:eh P t x G=some e):
  cy P G call w I α H rid nx (Instr.loadAt t x') e:=by
 unfold eh at h
 split at h
 ·rename_i id off
  simp only[Option.some.injEq] at h;subst h
  cases hx with
  | ptr _ _ b hb=>
   refine fJ c fun blk b' e' hg hα hB hk=> ?_
   rw[hb] at hα;cases hα
   split at hk
   ·simp only[Option.map_eq_some_iff] at hk
    obtain ⟨v,hv,rfl⟩:=hk
    obtain ⟨v',h1,h2⟩:=hB.row.part (P:=P) hv
    rw[Nat.zero_add] at h1
    exact eQ c (by simp[Instr.loadAt,Instr.sureAddr,h1]) h2
   ·simp at hk
 ·simp only[Option.map_eq_some_iff] at h
  obtain ⟨v,hv,rfl⟩:=h
  obtain ⟨b,base,rfl,hI,hr⟩:=hx.fptr_row
  obtain ⟨v',h1,h2⟩:=hr.part (P:=P) hv
  exact eQ c (by simp[Instr.loadAt,Instr.sureAddr,h1]) h2
 ·rename_i g off
  split at h
  ·rename_i l hl
   simp only[Option.map_eq_some_iff] at h
   obtain ⟨v,hv,rfl⟩:=h
   cases hx
   have hr:Row w I α g 0 l:=fun j x hx=>by
    obtain ⟨y,h1,h2⟩:=(c.rel.glob g l hl).2 j x hx
    exact ⟨y,by rw[Nat.zero_add];exact h1,h2⟩
   obtain ⟨v',h1,h2⟩:=hr.part (P:=P) hv
   rw[Nat.zero_add] at h1
   exact eQ c (by simp[Instr.loadAt,Instr.sureAddr,h1]) h2
  ·simp at h
 ·simp at h
theorem xl {t:TypeId} {f:Nat} {fd:Field} (h:jU P t f=some fd):∃fs,P.underlying t=some (.struct fs)∧fs[f]? =some fd:=by
 unfold jU at h
 split at h
 ·rename_i fs ht;exact ⟨fs,ht,h⟩
 ·simp at h
theorem DE {t:TypeId} {x:AV} {x':Value} {f:Nat} {v:AV} (hx:Rep w I α x x') (h:mT P t x f=some v):
  ∃v',(Instr.fieldAt t x' f).run P w= .ok v' w∧Rep w I α v v':=by
 unfold mT at h
 split at h
 ·rename_i fd hfd
  obtain ⟨fs,ht,hf⟩:=xl hfd
  split at h
  ·rename_i n hn
   have hsz:=cN (w:=w) hn
   have main:∀b o,x'= .pointer (some ⟨b,o,none⟩)→(Instr.fieldAt t x' f).run P w= .ok (.pointer (some ⟨b,o+fd.offset,none⟩)) w:=by
    rintro b o rfl
    simp[Instr.fieldAt,aE ht,hf,Instr.sureAddr,fieldPlace,hsz,add_lit]
   split at h
   ·simp only[Option.some.injEq] at h;subst h
    cases hx with
    |ptr _ _ b hb=>exact ⟨_,main b _ rfl,.ptr _ _ b hb⟩
   ·rename_i cs off
    simp only[Option.some.injEq] at h;subst h
    cases hx with
    |fptr _ _ b base g hI hg hr=>exact ⟨_,main b _ rfl,by rw[Nat.add_assoc];exact .fptr cs _ b base g hI hg hr⟩
   ·rename_i g off
    simp only[Option.some.injEq] at h;subst h
    cases hx
    exact ⟨_,main g _ rfl,.gptr _ _⟩
   ·simp at h
  ·simp at h
 ·simp at h
theorem DF {t:TypeId} {x:AV} {x':Value} {v:AV} (hx:Rep w I α x x') (h:r9 P t x=some v):
  ∃v',(Instr.arrayAt t x').run P w= .ok v' w∧Rep w I α v v':=by
 unfold r9 at h
 split at h
 ·rename_i n e own id off len sz ht
  split at h
  ·rename_i hn
   simp only[Option.some.injEq] at h;subst h
   have hn:=Nat.le_of_ble_eq_true hn
   cases hx with
   |rsl _ _ _ _ _ cap b hb hc ho=>
    refine ⟨.pointer (some ⟨b,off,none⟩), ?_,.ptr _ _ b hb⟩
    simp[Instr.arrayAt,aE ht]
    intro h';omega
  ·cases h
 ·rename_i n e f es ht
  split at h
  ·rename_i hb
   simp only[Bool.and_eq_true] at hb
   simp only[Option.some.injEq] at h;subst h
   have hn:=Nat.le_of_ble_eq_true hb.1
   have h0:0<n:=by simpa using hb.2.1
   have hone:=hb.2.2
   rw[aC] at hn
   cases hx with
   | fsl _ _ a len cap sz b base g hl hc hf ha hI hs hg hr=>
    have hne:es≠[]:=fun h=>by subst h;simp at hn;omega
    have ha':=nb hl hc ha hne
    subst ha'
    have hcell:∀ (l:List AV),bu l=true→∀e∈l,e.cells=[e]:=by
     intro l
     induction l with
     |nil=>intro _ e he;cases he
     |cons a t ih=>
      intro h e he
      simp only[bu,Bool.and_eq_true] at h
      rcases List.mem_cons.1 he with rfl|he
      ·cases e<;>first|rfl|(simp[AV.one] at h)
      ·exact ih h.2 e he
    have hsz:sz=1:=by
     obtain ⟨x,hx⟩:=List.exists_mem_of_ne_nil es hne
     rw[←hs x hx,hcell es hone x hx];rfl
    subst hsz
    refine ⟨.pointer (some ⟨b,base,none⟩), ?_,.fptr es 0 b base (fun j=>g j 0) (hI hne) (fun j c hc'=> ?_) (fun j c hc'=> ?_)⟩
    ·simp[Instr.arrayAt,aE ht]
     intro h';omega
    ·have:=hg j c 0 c hc' (by rw[hcell es hone c (List.mem_of_getElem? hc')];rfl)
     simpa using this
    ·exact hr j c 0 c hc' (by rw[hcell es hone c (List.mem_of_getElem? hc')];rfl)
  ·cases h
 ·cases h
theorem DG {t:TypeId} {x i:AV} {x' i':Value} {v:AV} (hx:Rep w I α x x') (hi:Rep w I α i i') (h:aQ P t x i=some v):
  ∃v',(Instr.indexAt t x' i').run P w= .ok v' w∧Rep w I α v v':=by
 unfold aQ at h
 cases hn:ej i with
 |none=>simp[hn] at h
 | some n=>
  simp only[hn,Option.bind_eq_bind,Option.bind_some] at h
  have hi':∃k,i'= .int k n:=by
   unfold ej at hn
   split at hn
   ·simp at hn;subst hn;cases hi;exact ⟨_,rfl⟩
   ·simp at hn
  obtain ⟨k,rfl⟩:=hi'
  split at h
  ·rename_i m e ht
   cases hsz:bC P e with
   |none=>simp[hsz] at h
   | some sz=>
    simp only[hsz,Option.bind_some] at h
    split at h
    ·rename_i hlt
     have hlt:n<m:=by simpa using hlt
     have main:∀b o,x'= .pointer (some ⟨b,o,none⟩)→(Instr.indexAt t x' (.int k n)).run P w= .ok (.pointer (some ⟨b,o+n*sz,none⟩)) w:=by
      rintro b o rfl
      have h1:(0:Int)≤n∧(n:Int)<m:=by omega
      simp[Instr.indexAt,asIntOf,aE ht,Instr.sureAddr,h1,cN hsz,add_lit]
      intro hh;omega
     split at h
     ·simp only[Option.some.injEq] at h;subst h
      cases hx with
      |ptr _ _ b hb=>exact ⟨_,main b _ rfl,.ptr _ _ b hb⟩
     ·rename_i cs off
      simp only[Option.some.injEq] at h;subst h
      cases hx with
      |fptr _ _ b base g hI hg hr=>exact ⟨_,main b _ rfl,by rw[Nat.add_assoc];exact .fptr cs _ b base g hI hg hr⟩
     ·rename_i g off
      simp only[Option.some.injEq] at h;subst h
      cases hx
      exact ⟨_,main g _ rfl,.gptr _ _⟩
     ·simp at h
    ·simp at h
  ·rename_i e ht
   cases hsz:bC P e with
   |none=>simp[hsz] at h
   | some sz=>
    simp only[hsz,Option.bind_some] at h
    have main:∀b o len cap,x'= .slice (some ⟨b,o,none⟩) len cap→n<len→(Instr.indexAt t x' (.int k n)).run P w= .ok (.pointer (some ⟨b,o+n*sz,none⟩)) w:=by
     rintro b o len cap rfl hlt
     have h1:(0:Int)≤n∧(n:Int)<len:=by omega
     simp[Instr.indexAt,asIntOf,aE ht,h1,cN hsz,add_lit]
     intro hh;omega
    split at h
    ·rename_i es
     split at h
     ·rename_i el hel
      rw[eA] at hel
      split at h
      ·rename_i hc
       have hc:el.cells.length=sz:=by rw[aC] at hc;exact beq_iff.1 hc
       simp only[Option.some.injEq] at h;subst h
       obtain ⟨b,base,len,cap,rfl,hlen,hI,hrow⟩:=hx.fsl_elem hel hc
       have hlt:n<len:=by
        rw[hlen]
        rcases Nat.lt_or_ge n es.length with h'|h'
        ·exact h'
        ·rw[List.getElem?_eq_none h'] at hel;cases hel
       refine ⟨_,main b base len cap rfl hlt, ?_⟩
       have:∀j,j<el.cells.length→∃y,w.cell? ⟨b,base+n*sz+j,none⟩=some y:=fun j hj=>by
        obtain ⟨y,h1,_⟩:=hrow j el.cells[j] (by simp[hj])
        exact ⟨y,h1⟩
       have hg:∀j c,el.cells[j]? =some c→w.cell? ⟨b,base+n*sz+j,none⟩=some ((w.cell? ⟨b,base+n*sz+j,none⟩).getD undef):=fun j c hj=>by
        obtain ⟨y,h1,_⟩:=hrow j c hj
        rw[h1];rfl
       have hr:∀j c,el.cells[j]? =some c→Rep w I α c ((w.cell? ⟨b,base+n*sz+j,none⟩).getD undef):=fun j c hj=>by
        obtain ⟨y,h1,h2⟩:=hrow j c hj
        rw[h1];exact h2
       exact .fptr el.cells 0 b (base+n*sz) (fun j=>(w.cell? ⟨b,base+n*sz+j,none⟩).getD undef) hI hg hr
      ·simp at h
     ·simp at h
    ·split at h
     ·rename_i hc
      simp only[Bool.and_eq_true] at hc
      have hlt:=hc.1
      simp only[Option.some.injEq] at h;subst h
      cases hx with
      |rsl _ _ _ _ _ cap b hb hcap ho=>exact ⟨_,main b _ _ _ rfl (by simpa using hlt),.ptr _ _ b hb⟩
     ·simp at h
    ·simp at h
  ·simp at h
theorem DH {t:TypeId} {x i:AV} {x' i':Value} {v:AV} (hx:Rep w I α x x') (hi:Rep w I α i i') (h:cL P t x i=some v):
  ∃v',(Instr.index t x' i').run P w= .ok v' w∧Rep w I α v v':=by
 unfold cL at h
 cases hn:ej i with
 |none=>simp[hn] at h
 | some n=>
  simp only[hn,Option.bind_eq_bind,Option.bind_some] at h
  have hi':∃k,i'= .int k n:=by
   unfold ej at hn
   split at hn
   ·simp at hn;subst hn;cases hi;exact ⟨_,rfl⟩
   ·simp at hn
  obtain ⟨k,rfl⟩:=hi'
  split at h
  ·rename_i m e cs ht
   split at h
   ·rename_i hlt
    have hlt:n<m:=by simpa using hlt
    cases hsz:bC P e with
    |none=>simp[hsz] at h
    |some sz=>
     simp only[hsz,Option.bind_some] at h
     obtain ⟨cs',rfl,hcs⟩:=Rep.agg_iff.1 hx
     obtain ⟨v',h1,h2⟩:=hcs.part (P:=P) h
     have hb:(0:Int)≤n∧(n:Int)<m:=by omega
     exact ⟨v',by simp[Instr.index,asIntOf,aE ht,cN hsz];rw[if_pos hlt];simpa using h1,h2⟩
   ·simp at h
  ·rename_i s ht
   simp only[Option.map_eq_some_iff] at h
   obtain ⟨b,hb,rfl⟩:=h
   rw[eA] at hb
   cases hx with
   | str _ bs hbs=>
    have:bs[n]? =some b:=by
     have hlt:n<bs.size:=by
      have:bs.size=s.length:=by rw[←hbs];exact Array.length_toList.symm
      rcases Nat.lt_or_ge n s.length with h'|h'
      ·omega
      ·rw[List.getElem?_eq_none h'] at hb;cases hb
     rw[ByteArray.getElem?_lt' bs n hlt]
     congr 1
     rw[←hbs] at hb
     simp only[Array.getElem?_toList] at hb
     have h2:bs.data[n]? =some bs[n]:=by
      rw[Array.getElem?_eq_getElem (show n<bs.data.size from hlt)];rfl
     rw[h2] at hb;cases hb;rfl
    exact ⟨_,by simp[Instr.index,asIntOf,aE ht,this],.int _ _⟩
  ·simp at h
theorem DI {t:TypeId} {cs:List AV} {x':Value} {f:Nat} {fd:Field} {v:AV} (hx:Rep w I α (.agg cs) x') (hf:jU P t f=some fd) (h:ch P fd.type cs fd.offset=some v):
  ∃v',(Instr.field t x' f).run P w= .ok v' w∧Rep w I α v v':=by
 obtain ⟨fs,ht,hf⟩:=xl hf
 obtain ⟨cs',rfl,hcs⟩:=Rep.agg_iff.1 hx
 obtain ⟨v',h1,h2⟩:=hcs.part (P:=P) h
 exact ⟨v',by simp[Instr.field,aE ht,hf,asAgg];simpa using h1,h2⟩
theorem DJ {x:AV} {x':Value} {xt t:TypeId} {ok:Bool} {v:AV} (hx:Rep w I α x x') (h:sm P x t ok=some v):
  ∃v',(Instr.typeAssert x' xt t ok).run P w= .ok v' w∧Rep w I α v v':=by
 unfold sm at h
 split at h
 ·simp at h
 ·rename_i d hni ht
  have zero:∀z,dp P t=some z→∃z',(zeroValue t).run P w= .ok z' w∧Rep w I α (.tuple [z,.bool false]) (.tuple #[z',.bool false]):=fun z hz=>by
   obtain ⟨i,z',h1,h2,h3⟩:=gb hz
   exact ⟨z',gg h1 h2,Rep.tuple_iff.2 ⟨_,rfl,.cons (fc h3) (.cons (.bool _) .nil)⟩⟩
  split at h
  ·rename_i t' y
   cases hx with
   | iface _ _ y' hy=>
    by_cases e:t'=t
    ·subst e
     simp only[if_true,Option.some.injEq] at h
     subst h
     cases ok with
     |true=>
      refine ⟨.tuple #[y',.bool true], ?_,Rep.tuple_iff.2 ⟨_,rfl,.cons hy (.cons (.bool _) .nil)⟩⟩
      cases d<;>first|(exact (hni _ rfl).elim)|simp[Instr.typeAssert,aE ht]
     |false=>
      refine ⟨y', ?_,hy⟩
      cases d<;>first|(exact (hni _ rfl).elim)|simp[Instr.typeAssert,aE ht]
    ·rw[if_neg e] at h
     split at h
     ·rename_i hok
      simp only[Option.map_eq_some_iff] at h
      obtain ⟨z,hz,rfl⟩:=h
      obtain ⟨z',h1,h2⟩:=zero z hz
      refine ⟨_, ?_,h2⟩
      cases d<;>first|(exact (hni _ rfl).elim)|simp[Instr.typeAssert,aE ht,e,hok,h1]
     ·simp at h
  ·split at h
   ·rename_i hok
    simp only[Option.map_eq_some_iff] at h
    obtain ⟨z,hz,rfl⟩:=h
    cases hx
    obtain ⟨z',h1,h2⟩:=zero z hz
    refine ⟨_, ?_,h2⟩
    cases d<;>first|(exact (hni _ rfl).elim)|simp[Instr.typeAssert,aE ht,hok,h1]
   ·simp at h
  ·simp at h
 ·simp at h
theorem DK {w':World} {I':Nat→Prop} {α':Nat→Option Nat} {b:Nat} {c:Array Value} {e:TypeId} {fr:Nat × Nat} {l:List AV} (h:w'.heap[b]? =some (.cells c e fr)) (hl:RepL w' I' α' l c.toList):
  Row w' I' α' b 0 l:=by
 intro j x hx
 obtain ⟨y,h1,h2⟩:=hl.get hx
 refine ⟨y, ?_,h2⟩
 rw[Nat.zero_add]
 simp only[World.cell?,h]
 simpa using h1
theorem sC {w':World} {I':Nat→Prop} {α':Nat→Option Nat} {b:Nat} {c:Array Value} {e:TypeId} {l:List AV} (h:w'.heap[b]? =some (.cells c e (0,0))) (hl:RepL w' I' α' l c.toList):
  BRel w' I' α' b (.cells l):=by
 have hc:l.length=c.size:=by have:=hl.1;simpa using this
 exact ⟨c,e,h,by omega,by rw[hc,←Array.length_toList,List.take_length];exact hl⟩
theorem xm {t:TypeId} {x:AV} {x':Value} {s:Sem Value} (c:Ctx P G call w I α H rid nx) (hx:Rep w I α x x')
  (hs:s.run P w= .ok (.pointer (some ⟨w.heap.size,0,none⟩)) {w with heap:=w.heap.push (.cells x'.cells t)}):
  cy P G call w I α H rid nx s (.new (.cells x.cells) fun id=> .ptr id 0):=by
 refine ng c (w':={w with heap:=w.heap.push (.cells x'.cells t)}) (by rw[hs];rfl) rfl (fun α' hα rel=> ?_) (fun α' hα=> .ptr _ _ _ hα)
 refine sC (c:=x'.cells) (e:=t) (by simp) ?_
 have ev:Ev w I α H {w with heap:=w.heap.push (.cells x'.cells t)} I α H:=gN rfl I (fun _ h=>h) (fun _ h=> .inl h)
 have:=hx.cells.ev c.rel ev
 exact ⟨this.1,fun i a b h1 h2=>(this.2 i a b h1 h2).mono (fun _ h=>h) hα (fun _ _ _=>rfl) (fun _ _ _=>rfl)⟩
theorem DL {t:TypeId} {z:AV} (c:Ctx P G call w I α H rid nx) (hz:dp P t=some z):
  cy P G call w I α H rid nx (Instr.alloc t true (.tuple #[])) (.new (.cells z.cells) fun id=> .ptr id 0):=by
 obtain ⟨i,v,h1,h2,h3⟩:=gb hz
 exact xm (t:=t) c (fc h3) (by simp[Instr.alloc,gg h1 h2,newVar,newRow])
end
end Go.Proofs.Abs
/- Stores; rows as sources; append. -/
namespace Go.Proofs.Abs
open Go
theorem pn:∀ {l:List AV},bu l=true→∀a∈l,a.one=true
 |[],_,_,h=>by cases h
 |x::t,h,a,ha=>by
  simp only[bu,Bool.and_eq_true] at h
  rcases List.mem_cons.1 ha with rfl|ha
  ·exact h.1
  ·exact pn h.2 a ha
theorem xn:∀ {sz:Nat} {l:List AV},bT sz l=true→∀a∈l,a.cells.length=sz
 |_,[],_,_,h=>by cases h
 |sz,x::t,h,a,ha=>by
  simp only[bT,Bool.and_eq_true] at h
  rcases List.mem_cons.1 ha with rfl|ha
  ·have:=beq_iff.1 h.1;rwa [aC] at this
  ·exact xn h.2 a ha
theorem hY:∀ {sz:Nat} {l:List AV},(∀a∈l,a.cells.length=sz)→(flat l).length=l.length*sz
 |_,[],_=>by simp[flat]
 |sz,x::t,h=>by
  simp only[flat,List.length_append,List.length_cons]
  rw[h x (by simp),hY (fun a ha=>h a (by simp[ha])),Nat.add_mul];omega
theorem sD:∀ {sz:Nat} {l:List AV},0<sz→(∀a∈l,a.cells.length=sz)→∀ (k:Nat) x,(flat l)[k]? =some x→∃e,l[k/sz]? =some e∧e.cells[k%sz]? =some x
 |_,[],_,_,k,x,h=>by simp[flat] at h
 | sz,y::t,hp,hs,k,x,h=>by
  have hy:=hs y (by simp)
  simp only[flat] at h
  by_cases hk:k<sz
  ·rw[List.getElem?_append_left (by omega)] at h
   exact ⟨y,by simp[Nat.div_eq_of_lt hk],by rw[Nat.mod_eq_of_lt hk];exact h⟩
  ·have hk:=Nat.le_of_not_lt hk
   rw[List.getElem?_append_right (by omega),hy] at h
   obtain ⟨e,h1,h2⟩:=sD hp (fun a ha=>hs a (by simp[ha])) (k-sz) x h
   have e1:k/sz=(k-sz)/sz+1:=by rw[Nat.div_eq k sz,if_pos ⟨hp,hk⟩]
   have e2:k%sz=(k-sz)%sz:=Nat.mod_eq_sub_mod hk
   exact ⟨e,by rw[e1];simpa using h1,by rw[e2];exact h2⟩
section
variable {P:Program} {G:aF} {call:aI} {w:World} {I:Nat→Prop} {α:Nat→Option Nat} {H:ab} {rid nx:Nat}
theorem RepL.take {a:List AV} {v:List Value} (h:RepL w I α a v) (n:Nat):RepL w I α (a.take n) (v.take n):=
 ⟨by simp[h.1],fun i x y h1 h2=>by
  by_cases hi:i<n
  ·rw[List.getElem?_take_of_lt hi] at h1 h2;exact h.2 i x y h1 h2
  ·rw[List.getElem?_eq_none (by simp;omega)] at h1;cases h1⟩
theorem RepL.drop {a:List AV} {v:List Value} (h:RepL w I α a v) (n:Nat):RepL w I α (a.drop n) (v.drop n):=
 ⟨by simp[h.1],fun i x y h1 h2=>by
  rw[List.getElem?_drop] at h1 h2;exact h.2 _ x y h1 h2⟩
theorem xp {w':World} (h:w'.heap=w.heap) (a:Addr):w'.cell? a=w.cell? a:=by simp[World.cell?,h]
theorem xq {w':World} {α':Nat→Option Nat} {b:Nat} {c:Array Value} {e:TypeId} {l cs l':List AV} {vs:List Value} {o:Nat} (hl:l.length≤c.size) (hlc:RepL w' I α' l (c.toList.take l.length))
  (hs:splice l o cs=some l') (hcs:RepL w' I α' cs vs) (hw:w'.heap[b]? =some (.cells (c.toList.take o++vs++c.toList.drop (o+vs.length)).toArray e (0,0))):BRel w' I α' b (.cells l'):=by
 obtain ⟨e1,e2⟩:=ga _ _ _ _ hs
 have hlen:=Dv hs
 refine ⟨_,e,hw, ?_, ?_⟩
 ·rw[hlen]
  have hv:=hcs.1
  rcases e2 with e2|e2
  ·subst e2;simp at hv;have:vs=[]:=List.eq_nil_of_length_eq_zero hv.symm;subst this;simpa using hl
  ·simp;omega
 ·rw[hlen]
  have hv:=hcs.1
  rcases e2 with e2|e2
  ·subst e2
   have:vs=[]:=List.eq_nil_of_length_eq_zero (by simpa using hv.symm)
   subst this
   simp only[List.append_nil,List.length_nil,Nat.add_zero,List.take_append_drop] at e1⊢
   rw[e1];exact hlc
  ·have k1:=hlc.take o
   have k2:=hlc.drop (o+cs.length)
   have k3:=(k1.append hcs).append k2
   rw[e1]
   refine ⟨by simp;omega,fun i x y h1 h2=>k3.2 i x y h1 ?_⟩
   rw[←h2]
   have hi:i<l.length:=by
    rcases Nat.lt_or_ge i l.length with h'|h'
    ·exact h'
    ·rw[←e1] at h1;rw[List.getElem?_eq_none (by omega)] at h1;cases h1
   simp only[List.take_take]
   rw[List.getElem?_take_of_lt hi]
   have ho:min o l.length=o:=by omega
   rw[ho]
   have hoc:min o c.size=o:=by omega
   by_cases h5:i<o+vs.length
   ·have L:∀ (A C:List Value),i<A.length→(A++C)[i]? =A[i]? :=fun A C h=>List.getElem?_append_left h
    exact (L (List.take o c.toList++vs) _ (by simp[hoc];omega)).trans (L (List.take o c.toList++vs) _ (by simp[hoc];omega)).symm
   ·have R:∀ (A C:List Value),A.length≤i→(A++C)[i]? =C[i-A.length]? :=fun A C h=>List.getElem?_append_right h
    refine (R (List.take o c.toList++vs) _ (by simp[hoc];omega)).trans (Eq.trans ?_ (R (List.take o c.toList++vs) _ (by simp[hoc];omega)).symm)
    simp only[List.length_append,List.length_take,Array.length_toList]
    rw[List.getElem?_drop,List.getElem?_drop,List.getElem?_take_of_lt (by omega)]
    congr 1
    omega
theorem sE {b id o:Nat} {c:Array Value} {e:TypeId} {l cs l':List AV} {vs:List Value} {v:AV} {v':Value} (cx:Ctx P G call w I α H rid nx) (hg:hget H id=some (.cells l)) (hα:α id=some b)
  (hB:w.heap[b]? =some (.cells c e (0,0))) (hl:l.length≤c.size) (hlc:RepL w I α l (c.toList.take l.length)) (hs:splice l o cs=some l') (hcs:RepL w I α cs vs)
  (hsz:o+vs.length≤c.size)
  (hv:∀w',Rel G w' I α (aZ H id)→Ev w I α H w' I α (aZ H id)→Rep w' I α v v'):
  Post G w I α H rid nx v (aY H id (.cells l')) nx v' (w.setRow b (c.toList.take o++vs++c.toList.drop (o+vs.length)).toArray):=by
 refine kb cx hg hα (by simp) (fun k hk=>setRow_other w b k _ hk) ?_ (fun rel ev=> ?_) (fun rel ev=>hv _ rel ev)
 ·simp only[World.shape?,setRow_heap w b c _ e _ hB,hB]
  simp;omega
 ·exact xq hl (hlc.ev cx.rel ev) hs (hcs.ev cx.rel ev) (setRow_heap w b c _ e _ hB)
theorem DM {t:TypeId} {x y:AV} {x' y':Value} {e:Eff} (c:Ctx P G call w I α H rid nx) (hx:Rep w I α x x') (hy:Rep w I α y y') (h:jS P t x y=some e):
  pk P G call w I α H rid nx (Instr.storeAt t x' y') e:=by
 unfold jS at h
 split at h
 ·rename_i id off
  split at h
  ·rename_i n hn
   split at h
   ·rename_i hc
    simp only[Bool.and_eq_true] at hc
    have hlen:y.cells.length=n:=by have:=beq_iff.1 hc.1;rwa [aC] at this
    simp only[Option.some.injEq] at h;subst h
    cases hx with
    | ptr _ _ b hb=>
     refine lx c fun blk b' blk' v hg hα hB hk=> ?_
     rw[hb] at hα;cases hα
     split at hk
     ·rename_i l
      simp only[Option.map_eq_some_iff,Prod.mk.injEq] at hk
      obtain ⟨l',hs,rfl,rfl⟩:=hk
      obtain ⟨cc,ee,h1,h2,h3⟩:=hB
      have hcs:=hy.cells
      have hvs:y'.cells.size=n:=by rw[←hlen,←Array.length_toList];exact hcs.1.symm
      have hone:∀u∈y'.cells.toList,u.oneCell'=true:=fun u hu=>by
       obtain ⟨i,hi⟩:=List.getElem?_of_mem hu
       have hi2:i<y.cells.length:=by
        rw[hcs.1]
        rcases Nat.lt_or_ge i y'.cells.toList.length with h'|h'
        ·exact h'
        ·rw[List.getElem?_eq_none h'] at hi;cases hi
       exact (hcs.2 i y.cells[i] u (by simp[hi2]) hi).one (pn hc.2 _ (List.getElem_mem hi2))
      obtain ⟨_,e2⟩:=ga _ _ _ _ hs
      by_cases hz:y.cells=[]
      ·have hz':y'.cells.toList=[]:=by have:=hcs.1;rw[hz] at this;exact List.eq_nil_of_length_eq_zero (by simpa using this.symm)
       have hn0:n=0:=by rw[←hlen,hz];rfl
       have hrun:(Instr.storeAt t (.pointer (some ⟨b,off,none⟩)) y').run P w= .ok () w:=by
        simp[Instr.storeAt,Instr.sureAddr,storeVar,cN hn,hvs,hz',storeCells]
       rw[hrun]
       have hl':l'=l:=by
        obtain ⟨e1,_⟩:=ga _ _ _ _ hs
        rw[e1,hz];simp
       subst hl'
       have hw:w=w.setRow b cc:=(setRow_self w b cc ee _ h1).symm
       refine kb (w':=w) c hg hb rfl (fun _ _=>rfl) rfl (fun _ _=>⟨cc,ee,h1,h2,h3⟩) (fun _ _=>Rep.tuple_iff.2 ⟨_,rfl,.nil⟩)
      ·have hfit:off+y'.cells.toList.length≤cc.size:=by
        rcases e2 with e2|e2
        ·exact absurd e2 hz
        ·rw[←hcs.1];omega
       have hrun:(Instr.storeAt t (.pointer (some ⟨b,off,none⟩)) y').run P w= .ok () (w.setRow b (cc.toList.take off++y'.cells.toList++cc.toList.drop (off+y'.cells.toList.length)).toArray):=by
        have:=run_storeCells_at P b off ee y'.cells.toList 0 cc w h1 (by simpa using hfit) hone
        simp only[Nat.add_zero] at this
        simp only[Instr.storeAt,Instr.sureAddr,storeVar,Sem.run_bind,Sem.run_pure,Result.andThen_ok,cN hn,hvs]
        rw[if_neg (by simp)]
        simpa using this
       rw[hrun]
       exact sE c hg hb h1 h2 h3 hs hcs hfit (fun _ _ _=>Rep.tuple_iff.2 ⟨_,rfl,.nil⟩)
     ·simp at hk
   ·simp at h
  ·simp at h
 ·simp at h
theorem xr {w':World} {b off n n' sz:Nat} {f:Nat→Value} (hc:∀j,j<n*sz→w.cell? ⟨b,off+j,none⟩=some (f j)) (hn:n'≤n) (hw:w'.heap=w.heap):
  (loadCells ⟨b,off,none⟩ (n'*sz)).run P w'= .ok (((List.range (n*sz)).map f).take (n'*sz)).toArray w':=by
 have hle:n'*sz≤n*sz:=Nat.mul_le_mul_right _ hn
 rw[run_loadCells w' _ _ f (fun j hj=>by rw[add_lit,xp hw];exact hc j (by omega))]
 congr 2
 rw[←List.map_take,List.take_range,Nat.min_eq_left hle]
theorem fsl_flat {full:Bool} {es:List AV} {x':Value} {sz:Nat} (hx:Rep w I α (.fsl full es) x') (hs:bT sz es=true):
  ∃a cap vs,x'= .slice a es.length cap∧es.length≤cap∧(full=true→cap=es.length)∧RepL w I α (flat es) vs∧vs.length=es.length*sz∧
   ∀n' w',n'≤es.length→w'.heap=w.heap→(Builtin.firstCells sz n' x').run P w'= .ok (vs.take (n'*sz)).toArray w':=by
 have hs':=xn hs
 cases hx with
 | fsl _ _ a len cap sz' b base g hl hc hf ha hI hsz hg hr=>
  subst hl
  by_cases hz:es.length*sz=0
  ·refine ⟨a,cap,[],rfl,hc,hf, ?_,by simpa using hz.symm,fun n' w' hn hw'=> ?_⟩
   ·have:flat es=[]:=List.eq_nil_of_length_eq_zero (by rw[hY hs'];exact hz)
    rw[this];exact .nil
   ·cases a with
    |none=>simp[Builtin.firstCells]
    | some a=>
     have:n'*sz=0:=by
      have:=Nat.mul_le_mul_right sz hn;omega
     simp[Builtin.firstCells,this,loadCells,loadCellsFrom]
  ·have hsz0:0<sz:=Nat.pos_of_ne_zero (fun e=>hz (by simp[e]))
   have hne:es≠[]:=fun e=>hz (by simp[e])
   have hsame:sz'=sz:=by
    obtain ⟨x,hx⟩:=List.exists_mem_of_ne_nil es hne
    rw[←hsz x hx,hs' x hx]
   subst hsame
   obtain rfl:=nb rfl hc ha hne
   have hget:∀k,k<es.length*sz'→∃x y,(flat es)[k]? =some x∧w.cell? ⟨b,base+k,none⟩=some y∧Rep w I α x y:=fun k hk=>by
    have hlt:k<(flat es).length:=by rw[hY hs'];exact hk
    obtain ⟨el,h1,h2⟩:=sD hsz0 hs' k (flat es)[k] (by simp[hlt])
    refine ⟨(flat es)[k],g (k/sz') (k%sz'),by simp[hlt], ?_,hr _ _ _ _ h1 h2⟩
    have:=hg _ _ _ _ h1 h2
    rwa [show base+k/sz'*sz'+k%sz'=base+k by rw[Nat.add_assoc,Nat.div_add_mod']] at this
   let f:Nat→Value:=fun k=>(w.cell? ⟨b,base+k,none⟩).getD undef
   refine ⟨_,cap,(List.range (es.length*sz')).map f,rfl,hc,hf,⟨by simp[hY hs'],fun i x y h1 h2=> ?_⟩,by simp,fun n' w' hn hw'=> ?_⟩
   ·have hi:i<es.length*sz':=by
     rcases Nat.lt_or_ge i (es.length*sz') with h'|h'
     ·exact h'
     ·rw[List.getElem?_eq_none (by rw[hY hs'];exact h')] at h1;cases h1
    obtain ⟨x',y',e1,e2,hrr⟩:=hget i hi
    rw[e1] at h1;cases h1
    simp[hi,f,e2] at h2
    subst h2;exact hrr
   ·simp only[Builtin.firstCells]
    exact xr (fun j hj=>by
     obtain ⟨_,y',_,e2,_⟩:=hget j hj
     simp[f,e2]) hn hw'
theorem sF:∀ (s:List UInt8),RepL w I α (aj s) (s.map fun b=> .int .u8 b.toNat)
 |[]=> .nil
 |_::t=> .cons (.int _ _) (sF t)
theorem po {m:Result Next} {sz:Nat} {x:AV} {x':Value} {k:Nat→List AV→Option Eff} {e:Eff} (c:Ctx P G call w I α H rid nx) (hx:Rep w I α x x') (h:e9 sz x k=some e)
  (hk:∀n cs vs e',k n cs=some e'→RepL w I α cs vs→vs.length=n*sz→(Builtin.lenOf x').run P w= .ok n w→
   (∀n' w',n'≤n→w'.heap=w.heap→(Builtin.firstCells sz n' x').run P w'= .ok (vs.take (n'*sz)).toArray w')→cS P G call w I α H rid nx m e'):
  cS P G call w I α H rid nx m e:=by
 unfold e9 at h
 split at h
 ·rename_i full es
  split at h
  ·rename_i hs
   obtain ⟨a,cap,vs,rfl,hc,hf,h1,h2,h3⟩:=fsl_flat (P:=P) hx hs
   rw[aC] at h
   exact hk _ _ _ _ h h1 h2 (by simp[Builtin.lenOf]) h3
  ·simp at h
 ·cases hx
  exact hk _ _ [] _ h .nil (by simp) (by simp[Builtin.lenOf]) (fun n' w' hn _=>by simp[Builtin.firstCells])
 ·cases hx
  refine hk _ _ [] _ h .nil (by simp) (by simp[Builtin.lenOf]) (fun n' w' hn _=> ?_)
  obtain rfl:n'=0:=Nat.le_zero.1 hn
  simp[Builtin.firstCells,loadCells,loadCellsFrom]
 ·rename_i s
  split at h
  ·rename_i hs
   have hs:sz=1:=beq_iff.1 hs
   subst hs
   cases hx with
   |str _ b hb=>
    rw[aC] at h
    have hsz:b.size=s.length:=by rw[←hb];exact Array.length_toList.symm
    refine hk _ _ _ _ h (sF s) (by simp) (by simp[Builtin.lenOf,hsz]) (fun n' w' hn _=> ?_)
    simp only[Builtin.firstCells,Sem.run_pure,Nat.mul_one]
    congr 1
    apply Array.ext'
    simp only[Array.toList_map]
    rw[←List.map_take]
    congr 1
    rw[←hb,ByteArray.data_extract]
    simp[List.extract_eq_take_drop]
  ·simp at h
 ·rename_i own id off len sz'
  simp only[Option.some.injEq] at h;subst h
  cases hx with
  | rsl _ _ _ _ _ cap b hb hcap ho=>
   refine fJ c fun blk b' e' hg hα hB hkk=> ?_
   rw[hb] at hα;cases hα
   split at hkk
   ·rename_i l
    split at hkk
    ·rename_i cs hcs
     have row:=hB.row
     obtain ⟨e1,e2,e3⟩:=jc _ _ _ _ hcs
     have hget:∀j,j<len*sz→∃x y,cs[j]? =some x∧w.cell? ⟨b,off+j,none⟩=some y∧Rep w I α x y:=fun j hj=>by
      have hlt:off+j<l.length:=by omega
      obtain ⟨y,h1,h2⟩:=row (off+j) l[off+j] (by simp[hlt])
      rw[Nat.zero_add] at h1
      refine ⟨l[off+j],y, ?_,h1,h2⟩
      rw[e1,List.getElem?_take_of_lt hj,List.getElem?_drop];simp[hlt]
     let f:Nat→Value:=fun k=>(w.cell? ⟨b,off+k,none⟩).getD undef
     refine hk _ _ ((List.range (len*sz)).map f) _ hkk ⟨by simp[e2],fun i x y h1 h2=> ?_⟩ (by simp) (by simp[Builtin.lenOf]) (fun n' w' hn hw'=> ?_)
     ·have hi:i<len*sz:=by
       rcases Nat.lt_or_ge i (len*sz) with h'|h'
       ·exact h'
       ·rw[List.getElem?_eq_none (by omega)] at h1;cases h1
      obtain ⟨x',y',k1,k2,hrr⟩:=hget i hi
      rw[k1] at h1;cases h1
      simp[hi,f,k2] at h2
      subst h2;exact hrr
     ·simp only[Builtin.firstCells]
      exact xr (fun j hj=>by
       obtain ⟨_,y',_,k2,_⟩:=hget j hj
       simp[f,k2]) hn hw'
    ·simp at hkk
   ·simp at hkk
 ·simp at h
end
end Go.Proofs.Abs
