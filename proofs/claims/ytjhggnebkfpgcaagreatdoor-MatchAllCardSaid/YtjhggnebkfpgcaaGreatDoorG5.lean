/- An abstract machine for the model's code: runs in continuation form, loops round by round, items as trees. -/
import Derived.Test.YtjhggnebkfpgcaaGreatDoorG4
import Derived.OpenShut
import Derived.LaidMore
namespace Go.Proofs.Abs
open Go
noncomputable section
def oblB (b:Bool) (K:Prop):Prop:=match b with
 |true=>K
 |false=>False
def mtB (b:Bool) (T F:Prop):Prop:=match b with
 |true=>T
 |false=>F
inductive ES where
 |eff (e:Eff)
 |obl (b:Bool) (e:Eff)
 |app (b:Bool) (i:Nat) (k:List AV→Bool × List AV) (v:Nat→AV)
 |pick (b:Bool) (x y:Option AV)
 |put (b:Bool) (i:Nat) (k:List AV→Bool × List AV) (v:AV)
def ES.ok (oe:Option Eff):ES→Prop
 | .eff e=>oe=some e
 | .obl b e=>b=true→oe=some e
 | .app b i k v=>b=true→∃kk,oe=some (.repl i kk)∧∀l,(k l).1=true→kk (.cells l)=some (.cells (k l).2,v)
 | .pick b x y=>(b=true→oe=valO x)∧(b=false→oe=valO y)
 | .put b i k v=>b=true→∃kk,oe=some (.upd i kk)∧∀l,(k l).1=true→kk (.cells l)=some (.cells (k l).2,v)
inductive Hint where
 |plain
 |ans (a:Ans)
 |el (v:AV)
 |ld (v:AV)
 |res (r:AV)
def nonneg:Int→Bool
 | .ofNat _=>true
 |_=>false
def natS:AV→Option (Bool × Nat)
 | .int _ n=>some (nonneg n,n.toNat)
 |_=>none
def optS:Option AV→Option (Bool × Option Nat)
 |none=>some (true,none)
 |some v=>match natS v with
  |some (b,n)=>some (b,some n)
  |none=>none
def strOf (es:List AV):List UInt8:=(bytesOf es).getD []
def splD (l:List AV) (o:Nat) (vs:List AV):List AV:=l.take o++(vs++l.drop (o+lenN vs))
def nthU (s:List UInt8) (i:Nat):UInt8:=s[i]?.getD 0
section
variable (P:Program)
def eqF (eq:TypeId→AV→AV→Option Bool):List Field→List AV→List AV→Option Bool
 |[],_,_=>some true
 | f::fs,xs,ys=>match f.name== "_" with
  |true=>eqF eq fs xs ys
  | false=>match partA P f.type xs f.offset,partA P f.type ys f.offset with
   |some a,some b=>match eq f.type a b,eqF eq fs xs ys with
    |some p,some q=>some (p&&q)
    |_,_=>none
   |_,_=>none
def eqE (eq:TypeId→AV→AV→Option Bool) (e:TypeId) (sz:Nat) (xs ys:List AV):List Nat→Option Bool
 |[]=>some true
 | i::is=>match partA P e xs (i*sz),partA P e ys (i*sz) with
  |some a,some b=>match eq e a b,eqE eq e sz xs ys is with
   |some p,some q=>some (p&&q)
   |_,_=>none
  |_,_=>none
def eqB:Nat→TypeId→AV→AV→Option Bool
 |0,_,_,_=>none
 | d+1,t,x,y=>match x,y with
  | .agg xs,.agg ys=>match P.underlying t with
   |some (.struct fs)=>match P.stoodInHeld t with
    |true=>none
    |false=>eqF P (eqB d) fs.toList xs ys
   |some (.array n e)=>match sizeA P e with
    |some sz=>eqE P (eqB d) e sz xs ys (List.range n)
    |none=>none
   |_=>none
  |x,y=>equalA P (d+1) t x y
def srcS (sz:Nat) (x:AV):Option (Bool × Nat × List AV):=match x with
 | .fsl _ es=>some (allSize sz es,lenN es,flat es)
 | .nilsl=>some (true,0,[])
 | .nesl=>some (true,0,[])
 | .str s=>some (Nat.beq sz 1,lenN s,toBytes s)
 |_=>none
def appendK (i:TypeInfo) (s:AV) (b:Bool) (n:Nat) (cs:List AV):Option ES:=match s with
 | .nilsl=>match Nat.beq n 0 with
  |true=>some (.obl b (.val .nilsl))
  |false=>some (.obl (b&&Nat.ble (n*i.bytes) 140737488355328) (.new (.cells cs) fun id=> .rsl true id 0 n i.size))
 | .fsl true es=>match Nat.beq n 0 with
  |true=>some (.obl b (.val (.fsl true es)))
  |false=>some (.obl (b&&(Nat.ble ((lenN es+n)*i.bytes) 140737488355328&&allSize i.size es)) (.new (.cells (flat es++cs)) fun id=> .rsl true id 0 (lenN es+n) i.size))
 | .rsl true id 0 len sz=>some (.app (b&&(Nat.ble ((len+n)*i.bytes) 140737488355328&&(allOne cs&&Nat.beq sz i.size))) id (fun l=>(Nat.beq (lenN l) (len*i.size),l++cs)) fun id'=> .rsl true id' 0 (len+n) i.size)
 |_=>none
def isSrc:TypeDesc→Bool
 | .slice _| .string=>true
 |_=>false
def appendS (argTypes:Array TypeId) (s x:AV):Option ES:=
 match argTypes[0]?,argTypes[1]? with
 | some st,some xt=>match P.underlying st,P.underlying xt with
  | some (.slice e),some xd=>match isSrc xd,P.info? e,zeroA P e with
   | true,some i,some z=>match Nat.beq i.size 0||Nat.beq i.bytes 0|| !Nat.beq (lenN z.cells) i.size with
    |true=>none
    |false=>match srcS i.size x with
     |some (b,n,cs)=>appendK i s b n cs
     |none=>none
   |_,_,_=>none
  |_,_=>none
 |_,_=>none
def sliceS (t:TypeId) (x:AV) (lo hi mx:Option AV):Option ES:=
 match optS lo,optS hi,mx with
 | some (b1,lo),some (b2,hi),none=>match x with
  | .str s=>match P.underlying t with
   |some .string=>some (.obl (b1&&(b2&&(Nat.ble (lo.getD 0) (hi.getD (lenN s))&&Nat.ble (hi.getD (lenN s)) (lenN s)))) (.val (.str ((s.drop (lo.getD 0)).take (hi.getD (lenN s)-lo.getD 0)))))
   |_=>none
  | .fsl full es=>match elemOfA P t with
   |some e=>match sizeA P e with
    |some sz=>some (.obl (b1&&(b2&&(headSize sz es&&(Nat.ble (lo.getD 0) (hi.getD (lenN es))&&Nat.ble (hi.getD (lenN es)) (lenN es))))) (.val (.fsl (fslFull full none (hi.getD (lenN es)) (lenN es)) ((es.drop (lo.getD 0)).take (hi.getD (lenN es)-lo.getD 0)))))
    |none=>none
   |none=>none
  | .rsl own id off len sz'=>match lo,hi with
   | none,some h=>match elemOfA P t with
    |some e=>match sizeA P e with
     |some sz=>some (.obl (b2&&(Nat.beq sz sz'&&Nat.ble h len)) (.val (.rsl own id off h sz)))
     |none=>none
    |none=>none
   |_,_=>none
  |_=>none
 |_,_,_=>none
def convS (src dst:TypeId) (x:AV):Option ES:=
 match P.underlying src,P.underlying dst,x with
 |some (.slice e),some .string,.fsl _ es=>match isByteType P e with
  |true=>some (.obl (bytesOf es).isSome (.val (.str (strOf es))))
  |false=>none
 |_,_,_=>none
def makeS (t:TypeId) (l c:AV):Option ES:=
 match elemOfA P t,natS l,natS c with
 | some e,some (b1,l),some (b2,c)=>match P.info? e,zeroA P e with
  |some i,some z=>
   some (.obl (b1&&(b2&&(Nat.ble l c&&Nat.ble (i.bytes*c) 281474976710656&&Nat.ble c 9223372036854775807&&Nat.beq (lenN z.cells) i.size&&Nat.blt 0 i.size))) (.new (.cells (flat (repE z c))) fun id=> .rsl true id 0 l i.size))
  |_,_=>none
 |_,_,_=>none
def copyS (argTypes:Array TypeId) (d x:AV):Option ES:=
 match argTypes[0]? with
 | some t=>match elemOfA P t with
  | some e=>match sizeA P e with
   | some sz=>match d with
    | .rsl _ id off len _=>match srcS sz x with
     |some (b,n,cs)=>some (.put (b&&allOne cs) id (fun l=>(Nat.ble (off+lenN (cs.take (min n len*sz))) (lenN l),splD l off (cs.take (min n len*sz)))) (.int .i64 (.ofNat (min n len))))
     |none=>none
    |_=>none
   |none=>none
  |none=>none
 |none=>none
def cellsT (t:TypeId) (v:AV):List AV:=match isAggA P t with
 |some false=>[v]
 |_=>v.cells
def fitsT (t:TypeId) (v:AV) (n:Nat):Bool:=match isAggA P t with
 |some false=>v.one&&Nat.beq n 1
 |_=>Nat.beq (lenN v.cells) n&&allOne v.cells
def storeS (t:TypeId) (a v:AV):Option ES:=
 match a with
 | .ptr id off=>match sizeA P t with
  |some n=>some (.put (fitsT P t v n) id (fun l=>(Nat.ble (off+n) (lenN l),splD l off (cellsT P t v))) undefA)
  |none=>none
 |_=>none
def boxS (t:TypeId) (v:AV):Option ES:=match isAggA P t with
 |some false=>some (.obl v.one (.new (.cells [v]) fun id=> .ptr id 0))
 |_=>none
def fillT (fs:List Field) (pl:List (Nat × Nat)):List AV→List (Nat × AV)→Option (Bool × List AV)
 |cells,[]=>some (true,cells)
 | cells,(i,v)::rest=>match getN fs i,getN pl i with
  | some f,some (off,s)=>match Nat.blt 0 s&&Nat.ble (off+s) (lenN cells) with
   |true=>match fillT fs pl (splD cells off (cellsT P f.type v)) rest with
    |some (b,c)=>some (fitsT P f.type v s&&b,c)
    |none=>none
   |false=>none
  |_,_=>none
def buildS (t:TypeId) (parts:List (Nat × AV)):Option ES:=
 match zeroA P t,P.underlying t with
 | some z,some (.struct fs)=>match placesA P fs.toList with
  |some pl=>match fillT P fs.toList pl z.cells parts with
   |some (b,c)=>some (.obl b (.val (.agg c)))
   |none=>none
  |none=>none
 |_,_=>none
def indexS (t:TypeId) (x i:AV):Option ES:=
 match P.underlying t,x,natS i with
 |some (.slice e),.rsl _ id off len sz',some (b,i)=>match sizeA P e with
  |some sz=>some (.obl (b&&(Nat.blt i len&&Nat.beq sz sz')) (.val (.ptr id (off+i*sz))))
  |none=>none
 |_,_,_=>none
def effS (glob:Nat→Option (List AV)) (ops:List Oper) (ev:Operand→Option AV) (o:Oper):Option ES:=
 match o.op with
 | .pick c a b=>match ev c with
  |some (.bool t)=>some (.pick t (ev a) (ev b))
  |_=>none
 | .binOp op t x y _=>match op,ev x,ev y with
  | .add,some (.str a),some (.str b)=>some (.obl (Nat.ble (lenN a+lenN b) 9223372036854775807) (.val (.str (a++b))))
  | .eql,some (.agg a),some (.agg b)=>match P.eqGuardType P.depth t,eqB P 16 t (.agg a) (.agg b) with
   |false,some r=>some (.eff (.val (.bool r)))
   |_,_=>none
  | .neq,some (.agg a),some (.agg b)=>match P.eqGuardType P.depth t,eqB P 16 t (.agg a) (.agg b) with
   |false,some r=>some (.eff (.val (.bool !r)))
   |_,_=>none
  | .quo,some (.int k a),some (.int k' b)=>match decide (k=k') with
   |true=>some (.obl (!beqInt b 0) (.val (.int k (wrapA k (a.tdiv b)))))
   |false=>none
  | .rem,some (.int k a),some (.int k' b)=>match decide (k=k') with
   |true=>some (.obl (!beqInt b 0) (.val (.int k (a.tmod b))))
   |false=>none
  |_,_,_=>match effB P glob ops ev o with
   |some e=>some (.eff e)
   |none=>none
 | .store t a x=>match ev a,ev x with
  |some a,some x=>storeS P t a x
  |_,_=>none
 | .box t x=>match ev x with
  | some v=>match boxS P t v with
   |some e=>some e
   |none=>match effB P glob ops ev o with
    |some e=>some (.eff e)
    |none=>none
  |none=>none
 | .build t parts=>match mapParts ev parts.toList with
  | some ps=>match buildS P t ps with
   |some e=>some e
   |none=>match effB P glob ops ev o with
    |some e=>some (.eff e)
    |none=>none
  |none=>none
 | .indexAddr t x i=>match ev x,ev i with
  | some x,some i=>match indexS P t x i with
   |some e=>some e
   |none=>match effB P glob ops ev o with
    |some e=>some (.eff e)
    |none=>none
  |_,_=>none
 | .convert s d x=>match ev x with
  | some (.fsl f es)=>match convS P s d (.fsl f es) with
   |some e=>some e
   |none=>match effB P glob ops ev o with
    |some e=>some (.eff e)
    |none=>none
  |_=>match effB P glob ops ev o with
   |some e=>some (.eff e)
   |none=>none
 | .index t x i=>match P.underlying t,ev x,ev i with
  |some .string,some (.str s),some w=>match natS w with
   |some (b,k)=>some (.obl (b&&Nat.blt k (lenN s)) (.val (.int .u8 (.ofNat (nthU s k).toNat))))
   |none=>none
  |_,_,_=>match effB P glob ops ev o with
   |some e=>some (.eff e)
   |none=>none
 | .makeSlice t l c=>match ev l,ev c with
  |some l,some c=>makeS P t l c
  |_,_=>none
 | .slice t x lo hi mx=>match ev x,mapOpt ev lo,mapOpt ev hi,mapOpt ev mx with
  | some x,some lo,some hi,some mx=>match sliceS P t x lo hi mx with
   |some e=>some e
   |none=>match sliceA P t x lo hi mx with
    |some e=>some (.eff e)
    |none=>none
  |_,_,_,_=>none
 | .call c=>match c.callee,mapOp ev c.args.toList with
  | .builtin .append,some [s,x]=>match appendS P c.argTypes s x with
   |some e=>some e
   |none=>match appendA P c.argTypes s x with
    |some e=>some (.eff e)
    |none=>none
  | .builtin .copy,some [d,x]=>match copyS P c.argTypes d x with
   |some e=>some e
   |none=>match copyA P c.argTypes d x with
    |some e=>some (.eff e)
    |none=>none
  |_,_=>match effB P glob ops ev o with
   |some e=>some (.eff e)
   |none=>none
 |_=>match effB P glob ops ev o with
  |some e=>some (.eff e)
  |none=>none
variable (O:Opts) (n:Nat)
abbrev LoopS:=St→(AExit→St→Prop)→Prop
inductive SemR where
 |val (v:AV)
 |part (L:List Nat) (v:AV) (H2:Heap) (m:Nat)
abbrev SemT:=FuncId→List AV→Heap→Nat→Option SemR
def noSem:SemT:=fun _ _ _ _=>none
structure Inl where
 see:List AV→Heap→List Nat
 run:List AV→Heap→Nat→(AV→Heap→Nat→Prop)→Prop
def noInl:FuncId→Option Inl:=fun _=>none
def noCut:Nat→Option (St→(St→Prop)→Prop):=fun _=>none
structure Aid where
 hint:Nat→Nat→Option Hint:=fun _ _=>none
 ls:Nat→Option LoopS:=fun _=>none
 cx:Caller:=fun _ _ _ _ _=>none
 sem:SemT:=noSem
 inl:FuncId→Option Inl:=noInl
 cut:Nat→Option (St→(St→Prop)→Prop):=noCut
def partH (L:List Nat) (H2:Heap) (nx:Nat) (h:Heap):Heap:=Mods.app (catM (oldM H2 L) (newM nx H2 H2)) h
def inlK (args:List AV) (h:Heap) (nx:Nat) (K:AV→Heap→Nat→Foot→Prop) (T:Inl):Prop:=
 T.run args (cutH h (T.see args h)) nx fun v H2 nx2=>oblB (Nat.ble nx nx2) (K v (partH (T.see args h) H2 nx h) nx2 ⟨true,T.see args h,nx::T.see args h⟩)
def semK (f:FuncId) (args:List AV) (h:Heap) (nx:Nat) (K:AV→Heap→Nat→Foot→Prop):SemR→Prop
 | .val v=>SemCall P O.glob f args v∧K v h nx ⟨false,[],[]⟩
 | .part L v H2 m=>BodySem P O.glob f args (cutH h L) nx v H2 (nx+m)∧K v (partH L H2 nx h) (nx+m) ⟨true,L,nx::L⟩
variable (A:Aid)
def plainK (id d:Nat) (e:Eff) (h:Heap) (nx:Nat) (K:AV→Heap→Nat→Foot→Prop):Prop:=
 match runEff (callN P O n) id d e h nx with
 |some (v,h',nx',ft)=>K v h' nx' ft
 |none=>False
def effK (id:Nat):Nat→Eff→Heap→Nat→(AV→Heap→Nat→Foot→Prop)→Prop
  | 0, e,h,nx,K=>match e with
    | .call f args=>match A.cx f args id h nx with
      |some (v,h',nx',ft)=>K v h' nx' ft
      | none=>match A.sem f args h nx with
       |some r=>semK P O f args h nx K r
       | none=>match A.inl f with
        |some T=>inlK args h nx K T
        |none=>match O.how f with
         | .pure=>match O.summ f args with
           |some v=>oblB (closedAll args) (K v h nx ⟨false,[],[]⟩)
           |none=>plainK P O n id 0 (.call f args) h nx K
         |_=>plainK P O n id 0 (.call f args) h nx K
    |e=>plainK P O n id 0 e h nx K
  | d + 1, e,h,nx,K=>match e with
    | .call f args=>match A.cx f args id h nx with
      |some (v,h',nx',ft)=>K v h' nx' ft
      | none=>match A.sem f args h nx with
       |some r=>semK P O f args h nx K r
       | none=>match A.inl f with
        |some T=>inlK args h nx K T
        |none=>match O.how f with
         | .pure=>match O.summ f args with
           |some v=>oblB (closedAll args) (K v h nx ⟨false,[],[]⟩)
           |none=>plainK P O n id (d+1) (.call f args) h nx K
         |_=>plainK P O n id (d+1) (.call f args) h nx K
    | .read i k=>match hget h i with
      | some b=>match k b with
        |some e=>effK id d e h nx fun v h' nx' ft=>K v h' nx' ⟨ft.all,i::ft.r,ft.w⟩
        |none=>False
      |none=>False
    |e=>plainK P O n id (d+1) e h nx K
def esK (id:Nat) (h:Heap) (nx:Nat) (K:AV→Heap→Nat→Foot→Prop):Option ES→Prop
 |none=>False
 |some (.eff e)=>effK P O n A id 2 e h nx K
 |some (.obl b e)=>oblB b (effK P O n A id 2 e h nx K)
 |some (.app b i k v)=>oblB b (match hget h i with
  |some (.cells l)=>oblB (k l).1 (K (v id) (hins (hdel h i) id (.cells (k l).2)) nx ⟨false,[],[i,id]⟩)
  |_=>False)
 |some (.put b i k v)=>oblB b (match hget h i with
  |some (.cells l)=>oblB (k l).1 (K v (hins h i (.cells (k l).2)) nx ⟨false,[],[i]⟩)
  |_=>False)
 | some (.pick b x y)=>match b with
  |true=>match x with
   |some v=>K v h nx ⟨false,[],[]⟩
   |none=>False
  |false=>match y with
   |some v=>K v h nx ⟨false,[],[]⟩
   |none=>False
def resOf (ev:Operand→Option AV) (o:Oper) (r:AV):Option Prop:=
 match o.op with
 | .convert s d x=>match ev x with
  |some v=>some (convA P s d v=some (.val r))
  |none=>none
 | .indexAddr t x i=>match ev x,ev i with
  |some v,some w=>some (indexAddrA P t v w=some r)
  |_,_=>none
 | .index t x i=>match ev x,ev i with
  |some v,some w=>some (indexA P t v w=some r)
  |_,_=>none
 | .slice t x lo hi mx=>match ev x,mapOpt ev lo,mapOpt ev hi,mapOpt ev mx with
  |some x,some lo,some hi,some mx=>some (sliceA P t x lo hi mx=some (.val r))
  |_,_,_,_=>none
 | .binOp op t x y _=>match ev x,ev y with
  |some v,some w=>some (binA P op t x y v w=some r)
  |_,_=>none
 | .call c=>match c.callee,mapOp ev c.args.toList with
  | .builtin b,some args=>some (builtinA P b c.argTypes args=some (.val r))
  |_,_=>none
 |_=>none
def hintK (ops:List Oper) (id:Nat) (o:Oper) (s:St) (K:AV→Heap→Nat→Foot→Prop):Hint→Prop
 | .plain=>match effB P O.glob ops (evA s.slots) o with
  |some e=>effK P O n A id 2 e s.heap s.nx K
  |none=>False
 | .ans a=>match ansT P O n (fun _ _ _ _ _=>none) ops id o s a with
  |some ((v,h,nx,ft),F)=>FactsSem P O F∧K v h nx ft
  |none=>False
 | .el v=>match o.op with
  | .indexAddr t x i=>match evA s.slots x,evA s.slots i with
   | some (.fsl _ es),some w=>match natS w,elemOfA P t with
    |some (b,k),some e=>match sizeA P e with
     |some sz=>getN es k=some v∧oblB (b&&Nat.beq (lenN v.cells) sz) (K (.fptr v.cells 0) s.heap s.nx ⟨false,[],[]⟩)
     |none=>False
    |_,_=>False
   |_,_=>False
  |_=>False
 | .ld v=>match o.op with
  | .load t a=>match evA s.slots a with
   |some (.ptr i off)=>match hget s.heap i with
    |some (.cells l)=>partA P t l off=some v∧K v s.heap s.nx ⟨false,[i],[]⟩
    |_=>False
   |some (.fptr cs off)=>partA P t cs off=some v∧K v s.heap s.nx ⟨false,[],[]⟩
   |some (.gptr g off)=>loadA P t (.gptr g off) O.glob=some (.val v)∧K v s.heap s.nx ⟨false,[],[]⟩
   |_=>False
  |_=>False
 | .res r=>match resOf P (evA s.slots) o r with
  |some p=>p∧K r s.heap s.nx ⟨false,[],[]⟩
  |none=>False
abbrev Kn:=List (Nat × Bool)
def kget:Kn→Nat→Option Bool
 |[],_=>none
 |(d,b)::t,k=>match Nat.beq d k with
  |true=>some b
  |false=>kget t k
def kdrop:Kn→Nat→Kn
 |[],_=>[]
 |(d,b)::t,k=>match Nat.beq d k with
  |true=>kdrop t k
  |false=>(d,b)::kdrop t k
def kput (kn:Kn):Option Tmp→Kn
 |some d=>kdrop kn d
 |none=>kn
def evN (kn:Kn) (slots:Tr) (x:Operand):Option AV:=match x with
 | .tmp t=>match kget kn t with
  |some b=>some (.bool b)
  |none=>evA slots (.tmp t)
 |x=>evA slots x
def goK (rid:Nat) (ops:List Oper) (id i:Nat) (o:Oper) (s:St) (kn:Kn) (K:Kn→St→Foot→Prop):Prop:=
 match A.hint rid i with
 |some a=>hintK P O n A ops id o s (fun v h nx ft=>K (kput kn o.dst) ⟨putA s.n s.slots o.dst v,h,nx,s.n⟩ ft) a
 |none=>esK P O n A id s.heap s.nx (fun v h nx ft=>K (kput kn o.dst) ⟨putA s.n s.slots o.dst v,h,nx,s.n⟩ ft) (effS P O.glob ops (evN kn s.slots) o)
def noK (o:Oper) (s:St) (kn:Kn) (K:Kn→St→Foot→Prop):Prop:=K (kput kn o.dst) ⟨putA s.n s.slots o.dst undefA,s.heap,s.nx,s.n⟩ ⟨false,[],[]⟩
def stepK (rid:Nat) (ops:List Oper) (id i:Nat) (o:Oper) (s:St) (kn:Kn) (K:Kn→St→Foot→Prop):Prop:=
 match o.guard with
 |none=>goK P O n A rid ops id i o s kn K
 | some (j,want)=>match getN ops j with
  | some g=>match g.dst with
   | some d=>match kget kn d with
    | some b=>match want with
     |true=>match b with
      |true=>goK P O n A rid ops id i o s kn K
      |false=>noK o s kn K
     |false=>match b with
      |true=>noK o s kn K
      |false=>goK P O n A rid ops id i o s kn K
    | none=>match s.slots.get d with
     | some (.bool b)=>match want with
      |true=>match b with
       |true=>goK P O n A rid ops id i o s ((d,true)::kn) K
       |false=>noK o s ((d,false)::kn) K
      |false=>match b with
       |true=>noK o s ((d,true)::kn) K
       |false=>goK P O n A rid ops id i o s ((d,false)::kn) K
     |some (.tuple [])=>noK o s kn K
     |_=>False
   |none=>False
  |none=>False
def runOpsK (rid:Nat) (all:List Oper) (base:Nat):List Oper→Nat→St→Kn→List (Nat × Foot)→(St→List (Nat × Foot)→Prop)→Prop
 |[],_,s,_,acc,K=>K s acc
 |o::rest,i,s,kn,acc,K=>stepK P O n A rid all (base+i) i o s kn fun kn' s' ft=>runOpsK rid all base rest (i+1) s' kn' (match ft.none with|true=>acc|false=>(i,ft)::acc) K
def loopK (B:St→(AExit→St→Prop)→Prop):Nat→St→(AExit→St→Prop)→Prop
 |0,_,_=>False
 |k+1,s,Q=>B s (thenK (fun s'=>loopK B k s' Q) Q)
end
def ridOf:Code→Nat
 | .region id _ _=>id+1
 | .seq a b=>match ridOf a with
  |0=>ridOf b
  |k+1=>k+1
 | .cond _ a b=>match ridOf a with
  |0=>ridOf b
  |k+1=>k+1
 | .block _ c=>ridOf c
 | .loop c=>ridOf c
 |_=>0
def loopsAt:Code→Nat→List Code
 | .seq a b,r=>loopsAt a r++loopsAt b r
 | .cond _ a b,r=>loopsAt a r++loopsAt b r
 | .block _ c,r=>loopsAt c r
 | .loop c,r=>(match Nat.beq (ridOf c) r with
  |true=>[c]
  |false=>[])++loopsAt c r
 |_,_=>[]
section
variable (P:Program) (O:Opts) (n:Nat) (A:Aid)
def regK (rid:Nat) (ops:Array Oper) (draw:Bool) (s:St) (Q:AExit→St→Prop):Prop:=
 runOpsK P O n A rid ops.toList s.nx ops.toList 0 ⟨s.slots,s.heap,s.nx+lenN ops.toList,s.n⟩ [] [] fun s' feet=>match draw with
  |false=>Q .normal s'
  |true=>oblB (regionOk ops.toList&&feetOk (befs ops.toList []) feet) (Q .normal s')
def setC (c:Operand) (b:Bool) (s:St):St:=match c with
 | .tmp d=>⟨putA s.n s.slots (some d) (.bool b),s.heap,s.nx,s.n⟩
 |_=>s
def wpK:Code→St→(AExit→St→Prop)→Prop
 | .skip,s,Q=>Q .normal s
 | .label _,s,Q=>Q .normal s
 | .exit i,s,Q=>Q (.exit i) s
 | .ret,s,Q=>Q .ret s
 | .region rid ops draw,s,Q=>match A.cut rid with
  |some C=>C s fun s=>regK P O n A rid ops draw s Q
  |none=>regK P O n A rid ops draw s Q
 | .seq a b,s,Q=>wpK a s (thenK (fun s'=>wpK b s' Q) Q)
 | .cond c a b,s,Q=>match evA s.slots c with
  |some (.bool t)=>match t with
   |true=>wpK a (setC c true s) Q
   |false=>wpK b (setC c false s) Q
  |_=>False
 | .block id body,s,Q=>wpK body s (blockK id Q)
 | .loop body,s,Q=>match A.ls (ridOf body) with
  |some L=>L s Q
  |none=>loopK (wpK body) O.lf s Q
 |_,_,_=>False
def fnK (f:FuncId) (args:List AV) (H:Heap) (nx:Nat) (Q:AV→Heap→Nat→Prop):Prop:=
  match P.funcs[f]? with
  | some fn=>match fn.body with
    | some c=>match fn.name== "runtime.NumGoroutine" with
      |true=>False
      | false=>match Nat.ble (lenN args) fn.ntmps&&Nat.ble fn.ntmps 4095 with
       |false=>False
       |true=>wpK P O n A c ⟨argsT args 0 .tip,H,nx,fn.ntmps⟩ fun e s=>match e with
        | .exit _=>False
        | _=>match resA P O.glob s fn.results.toList with
          |some l=>Q (tupA l) s.heap s.nx
          |none=>False
    |none=>False
  |none=>False
end
end
end Go.Proofs.Abs
/- The abstract machine in continuation form says but what is so. -/
namespace Go.Proofs.Abs
open Go
theorem oblB_iff {b:Bool} {K:Prop}:oblB b K↔b=true∧K:=by cases b<;>simp[oblB]
theorem mtB_of {b:Bool} {T F:Prop} (ht:b=true→T) (hf:b=false→F):mtB b T F:=by cases b<;>simp_all [mtB]
section
variable {P:Program}
theorem eqF_ok {eq eq':TypeId→AV→AV→Option Bool} (h:∀t x y r,eq t x y=some r→eq' t x y=some r):∀ (fs:List Field) (xs ys:List AV) (r:Bool),eqF P eq fs xs ys=some r→equalF P eq' fs xs ys=some r
 |[],xs,ys,r,hr=>by simpa [eqF,equalF] using hr
 | f ::fs,xs,ys,r,hr=>by
  simp only[eqF] at hr
  simp only[equalF]
  split at hr
  ·rename_i hn;simp only[hn];exact eqF_ok h fs xs ys r hr
  ·rename_i hn
   simp only[hn]
   split at hr
   ·rename_i a b ha hb
    simp only[ha,hb]
    split at hr
    ·rename_i p q hp hq
     simp only[Option.some.injEq] at hr
     subst hr
     rw[h _ _ _ _ hp]
     cases p with
     |true=>simpa using eqF_ok h fs xs ys q hq
     |false=>rfl
    ·cases hr
   ·cases hr
theorem eqE_ok {eq eq':TypeId→AV→AV→Option Bool} (h:∀t x y r,eq t x y=some r→eq' t x y=some r) {e:TypeId} {sz:Nat} {xs ys:List AV}:∀ (is:List Nat) (r:Bool),eqE P eq e sz xs ys is=some r→equalE P eq' e sz xs ys is=some r
 |[],r,hr=>by simpa [eqE,equalE] using hr
 | i::is,r,hr=>by
  simp only[eqE] at hr
  simp only[equalE]
  split at hr
  ·rename_i a b ha hb
   simp only[ha,hb]
   split at hr
   ·rename_i p q hp hq
    simp only[Option.some.injEq] at hr
    subst hr
    rw[h _ _ _ _ hp]
    cases p with
    |true=>simpa using eqE_ok h is q hq
    |false=>rfl
   ·cases hr
  ·cases hr
theorem eqB_ok:∀ (d:Nat) (t:TypeId) (x y:AV) (r:Bool),eqB P d t x y=some r→equalA P d t x y=some r
 |0,_,_,_,_,h=>by simp[eqB] at h
 | d +1,t,x,y,r,h=>by
  unfold eqB at h
  split at h
  ·rename_i xs ys
   split at h
   ·rename_i fs hu
    split at h
    ·cases h
    ·rename_i hs
     unfold equalA
     simp only[hu,hs]
     exact eqF_ok (eqB_ok d) _ _ _ _ h
   ·rename_i n e hu
    split at h
    ·rename_i sz hs
     unfold equalA
     simp only[hu,hs]
     exact eqE_ok (eqB_ok d) _ _ h
    ·cases h
   ·cases h
  ·exact h
theorem natS_ok {w:AV} {b:Bool} {k:Nat} (h:natS w=some (b,k)) (hb:b=true):natOf w=some k:=by
 unfold natS at h
 split at h
 ·rename_i kd n
  simp only[Option.some.injEq,Prod.mk.injEq] at h
  obtain ⟨rfl,rfl⟩:=h
  cases n with
  |ofNat m=>rfl
  |negSucc m=>cases hb
 ·cases h
theorem optS_ok {w:Option AV} {b:Bool} {k:Option Nat} (h:optS w=some (b,k)) (hb:b=true):optNat w=some k:=by
 unfold optS at h
 split at h
 ·simp only[Option.some.injEq,Prod.mk.injEq] at h
  obtain ⟨_,rfl⟩:=h;rfl
 ·rename_i v
  split at h
  ·rename_i b' n hn
   simp only[Option.some.injEq,Prod.mk.injEq] at h
   obtain ⟨rfl,rfl⟩:=h
   simp[optNat,natS_ok hn hb]
  ·cases h
theorem chunk_drop:∀ (l:List AV) (o n:Nat),o+n≤l.length→chunk l o n=some ((l.drop o).take n)
 |l,o,0,_=>by cases l<;>simp[chunk]
 |[],o,n+1,h=>by simp at h
 |a::t,0,n+1,h=>by
  simp only[List.length_cons] at h
  simp[chunk,chunk_drop t 0 n (by omega)]
 |a::t,o+1,n+1,h=>by
  simp only[List.length_cons] at h
  simp[chunk,chunk_drop t o (n+1) (by omega)]
theorem srcS_ok {i:TypeInfo} {xd:TypeDesc} {z x:AV} {b:Bool} {m:Nat} {cs:List AV} {k:Nat→List AV→Option Eff} (hx:isSrc xd=true) (h:srcS i.size x=some (b,m,cs)) (hb:b=true):appSrc xd i.size i.bytes z x k=k m cs:=by
 have e:appSrc xd i.size i.bytes z x k=srcA i.size x k:=by
  cases xd<;>first|(cases hx;done)|rfl
 rw[e]
 unfold srcS at h
 split at h
 ·simp only[Option.some.injEq,Prod.mk.injEq] at h
  obtain ⟨rfl,rfl,rfl⟩:=h
  simp[srcA,hb]
 ·simp only[Option.some.injEq,Prod.mk.injEq] at h
  obtain ⟨rfl,rfl,rfl⟩:=h;rfl
 ·simp only[Option.some.injEq,Prod.mk.injEq] at h
  obtain ⟨rfl,rfl,rfl⟩:=h;rfl
 ·simp only[Option.some.injEq,Prod.mk.injEq] at h
  obtain ⟨rfl,rfl,rfl⟩:=h
  simp only[srcA,hb,if_true]
 ·cases h
theorem srcS_nil {sz:Nat} {x:AV} {b:Bool} {cs:List AV} (h:srcS sz x=some (b,0,cs)):cs=[]:=by
 unfold srcS at h
 split at h
 ·rename_i es
  simp only[Option.some.injEq,Prod.mk.injEq] at h
  obtain ⟨_,h1,rfl⟩:=h
  cases es with
  |nil=>rfl
  |cons a r=>simp[lenN] at h1
 ·simp only[Option.some.injEq,Prod.mk.injEq] at h
  exact h.2.2.symm
 ·simp only[Option.some.injEq,Prod.mk.injEq] at h
  exact h.2.2.symm
 ·rename_i s
  simp only[Option.some.injEq,Prod.mk.injEq] at h
  obtain ⟨_,h1,rfl⟩:=h
  cases s with
  |nil=>rfl
  |cons a r=>simp[lenN] at h1
 ·cases h
theorem splice_nil (l:List AV) (k:Nat):splice l k []=some l:=by cases l<;>cases k<;>rfl
theorem appendS_ok {argTypes:Array TypeId} {s x:AV} {es:ES} (h:appendS P argTypes s x=some es):es.ok (appendA P argTypes s x):=by
 unfold appendS at h
 split at h
 ·rename_i st xt h1 h2
  split at h
  ·rename_i e xd h3 h4
   split at h
   ·rename_i i z hx hi hz
    split at h
    ·cases h
    ·rename_i hc
     split at h
     ·rename_i b m cs hsrc
      have hA:∀k,b=true→appSrc xd i.size i.bytes z x k=k m cs:=fun k hb=>srcS_ok hx hsrc hb
      unfold appendA
      simp only[h1,h2,h3,h4,hi,hz]
      rw[Bool.or_eq_false_iff,Bool.or_eq_false_iff] at hc
      obtain ⟨⟨c1,c2⟩,c3⟩:=hc
      simp only[c1,c2,c3,Bool.or_self,Bool.false_eq_true,if_false]
      unfold appendK at h
      split at h
      ·split at h
       ·rename_i hm
        simp only[Option.some.injEq] at h;subst h
        intro hb
        rw[hA _ hb];simp[hm]
       ·rename_i hm
        simp only[Option.some.injEq] at h;subst h
        intro hb
        rw[Bool.and_eq_true] at hb
        rw[hA _ hb.1];simp only[hm,hb.2,Bool.false_eq_true,if_false,if_true]
      ·split at h
       ·rename_i hm
        simp only[Option.some.injEq] at h;subst h
        intro hb
        rw[hA _ hb];simp[hm]
       ·rename_i hm
        simp only[Option.some.injEq] at h;subst h
        intro hb
        rw[Bool.and_eq_true] at hb
        rw[hA _ hb.1];simp only[hm,hb.2,Bool.false_eq_true,if_false,if_true]
      ·rename_i id len sz
       simp only[Option.some.injEq] at h;subst h
       intro hb
       rw[Bool.and_eq_true,Bool.and_eq_true] at hb
       obtain ⟨hb,hb1,hb2⟩:=hb
       rw[hA _ hb]
       simp only[hb1,hb2,Bool.true_and,if_true]
       refine ⟨_,rfl,fun l hl=> ?_⟩
       have hl:=beq_iff.1 hl
       have hs:i.size≠0:=beq_false_iff.1 c1
       cases hm:Nat.beq m 0 with
       | false=>
        have hm:m≠0:=beq_false_iff.1 hm
        have:¬ ((len+m)*i.size≤lenN l):=by
         rw[hl]
         intro hle
         have:=Nat.le_of_mul_le_mul_right hle (Nat.pos_of_ne_zero hs)
         omega
        simp only
        rw[if_neg (by simpa using this),if_pos (by simp[hl])]
        rw[List.take_of_length_le (by rw[←lenN_eq];omega)]
       |true=>
        obtain rfl:=beq_iff.1 hm
        obtain rfl:=srcS_nil hsrc
        simp only[Nat.add_zero]
        rw[if_pos (by simp[hl]),splice_nil,List.append_nil]
      ·cases h
     ·cases h
   ·cases h
  ·cases h
 ·cases h
theorem sliceS_ok {t:TypeId} {x:AV} {lo hi mx:Option AV} {es:ES} (h:sliceS P t x lo hi mx=some es):es.ok (sliceA P t x lo hi mx):=by
 unfold sliceS at h
 split at h
 ·rename_i b1 l b2 hh hl hhi
  split at h
  ·rename_i s
   split at h
   ·rename_i hu
    simp only[Option.some.injEq] at h;subst h
    intro hb
    simp only[Bool.and_eq_true] at hb
    obtain ⟨k1,k2,k3,k4⟩:=hb
    have q1:=optS_ok hl k1
    have q2:=optS_ok hhi k2
    have q3:optNat none=some none:=rfl
    simp only[sliceA,q1,q2,q3,sliceStr,hu,k3,k4,Option.isNone_none,Bool.and_self]
   ·cases h
  ·rename_i full es'
   split at h
   ·rename_i e he
    split at h
    ·rename_i sz hsz
     simp only[Option.some.injEq] at h;subst h
     intro hb
     simp only[Bool.and_eq_true] at hb
     obtain ⟨k1,k2,k3,k4,k5⟩:=hb
     have q1:=optS_ok hl k1
     have q2:=optS_ok hhi k2
     have q3:optNat none=some none:=rfl
     simp only[sliceA,q1,q2,q3,sliceFsl,he,hsz,k3,k4,k5,Bool.and_self,cutA]
     rw[chunk_drop _ _ _ (by rw[←lenN_eq];rw[Nat.ble_eq] at k4 k5;omega)]
    ·cases h
   ·cases h
  ·rename_i own id off len sz'
   split at h
   ·rename_i h0
    split at h
    ·rename_i e he
     split at h
     ·rename_i sz hsz
      simp only[Option.some.injEq] at h;subst h
      intro hb
      simp only[Bool.and_eq_true] at hb
      obtain ⟨k2,k3,k4⟩:=hb
      have e1:b1=true:=by
       unfold optS at hl
       split at hl
       ·simp only[Option.some.injEq,Prod.mk.injEq] at hl;exact hl.1.symm
       ·split at hl
        ·simp at hl
        ·cases hl
      have q1:=optS_ok hl e1
      have q2:=optS_ok hhi k2
      have q3:optNat none=some none:=rfl
      simp only[sliceA,q1,q2,q3,sliceRsl,he,hsz,k3,Option.getD_none,Option.getD_some,k4,Option.isNone_none,Bool.and_true]
      have k5:Nat.ble 0 h0=true:=by simp
      simp[rslCut,beq_iff.1 k3,k5]
     ·cases h
    ·cases h
   ·cases h
  ·cases h
 ·cases h
theorem convS_ok {src dst:TypeId} {x:AV} {es:ES} (h:convS P src dst x=some es):es.ok (convA P src dst x):=by
 unfold convS at h
 split at h
 ·rename_i e f l hs hd
  split at h
  ·rename_i hb
   simp only[Option.some.injEq] at h;subst h
   intro hi
   unfold convA
   simp only[hs,hd,hb,convToStr]
   cases hl:bytesOf l with
   |none=>rw[hl] at hi;cases hi
   |some s=>simp[strO,strOf,hl]
  ·cases h
 ·cases h
theorem makeS_ok {t:TypeId} {l c:AV} {es:ES} (h:makeS P t l c=some es):es.ok (makeSliceA P t l c):=by
 unfold makeS at h
 split at h
 ·rename_i e b1 l' b2 c' he hl hc
  split at h
  ·rename_i i z hi hz
   simp only[Option.some.injEq] at h;subst h
   intro hb
   rw[Bool.and_eq_true,Bool.and_eq_true] at hb
   obtain ⟨k1,k2,k3⟩:=hb
   simp only[makeSliceA,he,natS_ok hl k1,natS_ok hc k2,hi,hz,k3]
  ·cases h
 ·cases h
theorem splD_ok {l:List AV} {o:Nat} {vs:List AV} (h:o+vs.length≤l.length):splice l o vs=some (splD l o vs):=by
  unfold splD
  rw[lenN_eq]
  exact go l o vs h
 where
  go:∀ (l:List AV) (o:Nat) (vs:List AV),o+vs.length≤l.length→splice l o vs=some (l.take o++(vs++l.drop (o+vs.length)))
    |l,o,[],_=>by cases l<;>simp[splice]
    |[],o,_::_,h=>by simp at h
    | a::t,0,v::vs,h=>by
      simp only[List.length_cons] at h
      have:=go t 0 vs (by omega)
      simp only[splice,this]
      simp
    | a::t,o+1,v::vs,h=>by
      simp only[List.length_cons] at h
      have:=go t o (v::vs) (by simp only[List.length_cons];omega)
      simp only[splice,this]
      simp[show o+1+(vs.length+1)=o+(vs.length+1)+1 by omega]
theorem srcS_src {sz:Nat} {x:AV} {b:Bool} {m:Nat} {cs:List AV} {k:Nat→List AV→Option Eff} (h:srcS sz x=some (b,m,cs)) (hb:b=true):srcA sz x k=k m cs:=by
 unfold srcS at h
 split at h
 ·simp only[Option.some.injEq,Prod.mk.injEq] at h
  obtain ⟨rfl,rfl,rfl⟩:=h
  simp[srcA,hb]
 ·simp only[Option.some.injEq,Prod.mk.injEq] at h
  obtain ⟨rfl,rfl,rfl⟩:=h;rfl
 ·simp only[Option.some.injEq,Prod.mk.injEq] at h
  obtain ⟨rfl,rfl,rfl⟩:=h;rfl
 ·simp only[Option.some.injEq,Prod.mk.injEq] at h
  obtain ⟨rfl,rfl,rfl⟩:=h
  simp only[srcA,hb,if_true]
 ·cases h
theorem copyS_ok {argTypes:Array TypeId} {d x:AV} {es:ES} (h:copyS P argTypes d x=some es):es.ok (copyA P argTypes d x):=by
 unfold copyS at h
 split at h
 ·rename_i t ht
  split at h
  ·rename_i e he
   split at h
   ·rename_i sz hsz
    split at h
    ·rename_i own id off len s'
     split at h
     ·rename_i b m cs hsrc
      simp only[Option.some.injEq] at h;subst h
      intro hb
      rw[Bool.and_eq_true] at hb
      unfold copyA
      simp only[ht,he,hsz,srcS_src hsrc hb.1,hb.2,if_true]
      refine ⟨_,rfl,fun l hl=> ?_⟩
      have hl:off+(cs.take (min m len*sz)).length≤l.length:=by simpa [lenN_eq] using hl
      simp only[splD_ok hl]
     ·cases h
    ·cases h
   ·cases h
  ·cases h
 ·cases h
theorem fitsT_ok {t:TypeId} {v:AV} {n:Nat} (h:fitsT P t v n=true):(Nat.beq (lenN v.cells) n&&allOne v.cells)=true∧cellsT P t v=v.cells:=by
 unfold fitsT at h
 unfold cellsT
 split at h
 ·rename_i ht
  rw[Bool.and_eq_true] at h
  have e:=one_cells h.1
  have hn:=beq_iff.1 h.2
  subst hn
  exact ⟨by rw[e];simp[lenN,allOne,h.1],e.symm⟩
 ·rename_i hne
  exact ⟨h,rfl⟩
theorem storeS_ok {t:TypeId} {a v:AV} {es:ES} (h:storeS P t a v=some es):es.ok (storeA P t a v):=by
 unfold storeS at h
 split at h
 ·rename_i id off
  split at h
  ·rename_i n hn
   simp only[Option.some.injEq] at h;subst h
   intro hb
   obtain ⟨hb,hc⟩:=fitsT_ok hb
   have hb1:=(Bool.and_eq_true _ _▸hb:_∧_).1
   refine ⟨_,by simp only[storeA,hn,hb,if_true];rfl,fun l hl=> ?_⟩
   have hl:off+v.cells.length≤l.length:=by
    have h1:=beq_iff.1 hb1
    rw[lenN_eq] at h1
    simpa [lenN_eq,h1] using hl
   simp only[hc,splD_ok hl,Option.map_some]
  ·cases h
 ·cases h
theorem boxS_ok {t:TypeId} {v:AV} {es:ES} (h:boxS P t v=some es):es.ok (boxEff v):=by
 unfold boxS at h
 split at h
 ·simp only[Option.some.injEq] at h;subst h
  intro hb
  simp only[boxEff,one_cells hb]
 ·cases h
theorem fillT_ok {fs:List Field} {pl:List (Nat × Nat)}:∀ {parts:List (Nat × AV)} {cells c:List AV} {b:Bool},fillT P fs pl cells parts=some (b,c)→b=true→fillA (getN pl) cells parts=some c
 |[],_,_,_,h,_=>by
  simp only[fillT,Option.some.injEq,Prod.mk.injEq] at h
  simp only[fillA,h.2]
 | (i,v)::rest,cells,c,b,h,hb=>by
  unfold fillT at h
  split at h
  ·rename_i f off s hf hp
   split at h
   ·rename_i hs
    split at h
    ·rename_i b' c' hr
     simp only[Option.some.injEq,Prod.mk.injEq] at h
     obtain ⟨rfl,rfl⟩:=h
     rw[Bool.and_eq_true] at hb hs
     obtain ⟨h1,h2⟩:=fitsT_ok hb.1
     rw[Bool.and_eq_true] at h1
     have hl:=beq_iff.1 h1.1
     rw[lenN_eq] at hl
     have hle:=Nat.le_of_ble_eq_true hs.2
     rw[lenN_eq] at hle
     have:=fillT_ok hr hb.2
     rw[h2] at this
     simp only[fillA,hp,h1.1,hs.1,Bool.and_self,if_true,splD_ok (show off+v.cells.length≤cells.length by omega),this]
    ·cases h
   ·cases h
  ·cases h
theorem buildS_ok {t:TypeId} {parts:List (Nat × AV)} {es:ES} (h:buildS P t parts=some es):es.ok (valO (buildA P t parts)):=by
 unfold buildS at h
 split at h
 ·rename_i z fs hz hu
  split at h
  ·rename_i pl hpl
   split at h
   ·rename_i b c hc
    simp only[Option.some.injEq] at h;subst h
    intro hb
    simp only[buildA,hz,hu,hpl,fillT_ok hc hb,aggO,valO]
   ·cases h
  ·cases h
 ·cases h
theorem indexS_ok {t:TypeId} {x i:AV} {es:ES} (h:indexS P t x i=some es):es.ok (valO (indexAddrA P t x i)):=by
 unfold indexS at h
 split at h
 ·rename_i e own id off len sz' b k hu hn
  split at h
  ·rename_i sz hsz
   simp only[Option.some.injEq] at h;subst h
   intro hb
   rw[Bool.and_eq_true] at hb
   have q1:=natS_ok hn hb.1
   simp only[indexAddrA,q1,hu,hsz,hb.2,Option.bind_eq_bind,Option.bind_some,if_true,valO]
  ·cases h
 ·cases h
theorem effB_of {G:Glob} {ops:List Oper} {ev:Operand→Option AV} {o:Oper} (h:notRow o.op=true):effB P G ops ev o=effA P G ev o:=by
 unfold effB
 split
 ·rename_i ho _;rw[ho] at h;cases h
 ·rfl
theorem effS_ok {G:Glob} {ops:List Oper} {ev:Operand→Option AV} {o:Oper} {es:ES} (h:effS P G ops ev o=some es):es.ok (effB P G ops ev o):=by
 have plain:(match effB P G ops ev o with
   |some e=>some (ES.eff e)
   |none=>none)=some es→es.ok (effB P G ops ev o):=fun h=>by
  split at h
  ·rename_i e he
   simp only[Option.some.injEq] at h;subst h
   exact he
  ·cases h
 unfold effS at h
 split at h
 ·rename_i c a b ho
  rw[effB_of (by rw[ho];rfl)]
  split at h
  ·rename_i t ht
   simp only[Option.some.injEq] at h;subst h
   refine ⟨?_, ?_⟩<;>rintro rfl<;>simp[effA,ho,ePick,ht]
  ·cases h
 ·rename_i op t x y t' ho
  split at h
  ·rename_i a b hx hy
   simp only[Option.some.injEq] at h;subst h
   intro hb
   rw[effB_of (by rw[ho];rfl)]
   simp only[effA,ho,e2,hx,hy,valO,binA,hb,if_true]
  ·rename_i a b hx hy
   split at h
   ·rename_i r hg hr
    simp only[Option.some.injEq] at h;subst h
    show _=some _
    rw[effB_of (by rw[ho];rfl)]
    simp only[effA,ho,e2,hx,hy,valO,binA,hg,eqB_ok _ _ _ _ _ hr,Bool.false_eq_true,if_false,Option.map_some]
   ·cases h
  ·rename_i a b hx hy
   split at h
   ·rename_i r hg hr
    simp only[Option.some.injEq] at h;subst h
    show _=some _
    rw[effB_of (by rw[ho];rfl)]
    simp only[effA,ho,e2,hx,hy,valO,binA,hg,eqB_ok _ _ _ _ _ hr,Bool.false_eq_true,if_false,Option.map_some]
   ·cases h
  ·rename_i k a k' b hx hy
   split at h
   ·rename_i hk
    have hk:=of_decide_eq_true hk
    subst hk
    simp only[Option.some.injEq] at h;subst h
    intro hb
    have hb:beqInt b 0=false:=by simpa using hb
    rw[effB_of (by rw[ho];rfl)]
    simp[effA,ho,e2,hx,hy,valO,binA,hb]
   ·cases h
  ·rename_i k a k' b hx hy
   split at h
   ·rename_i hk
    have hk:=of_decide_eq_true hk
    subst hk
    simp only[Option.some.injEq] at h;subst h
    intro hb
    have hb:beqInt b 0=false:=by simpa using hb
    rw[effB_of (by rw[ho];rfl)]
    simp[effA,ho,e2,hx,hy,valO,binA,hb]
   ·cases h
  ·exact plain h
 ·rename_i t a x ho
  split at h
  ·rename_i a' x' ha hx
   rw[effB_of (by rw[ho];rfl)]
   have:=storeS_ok h
   simpa only[effA,ho,e2,ha,hx] using this
  ·cases h
 ·rename_i t x ho
  split at h
  ·rename_i v hx
   split at h
   ·rename_i e he
    simp only[Option.some.injEq] at h;subst h
    rw[effB_of (by rw[ho];rfl)]
    have:=boxS_ok he
    simpa only[effA,ho,e1,hx] using this
   ·exact plain h
  ·cases h
 ·rename_i t parts ho
  split at h
  ·rename_i ps hps
   split at h
   ·rename_i e he
    simp only[Option.some.injEq] at h;subst h
    rw[effB_of (by rw[ho];rfl)]
    have:=buildS_ok he
    simpa only[effA,ho,eBuild,hps] using this
   ·exact plain h
  ·cases h
 ·rename_i t x i ho
  split at h
  ·rename_i x' i' hx hi
   split at h
   ·rename_i e he
    simp only[Option.some.injEq] at h;subst h
    rw[effB_of (by rw[ho];rfl)]
    have:=indexS_ok he
    simpa only[effA,ho,e2,hx,hi] using this
   ·exact plain h
  ·cases h
 ·rename_i s d x ho
  split at h
  ·rename_i f l hx
   split at h
   ·rename_i e he
    simp only[Option.some.injEq] at h;subst h
    rw[effB_of (by rw[ho];rfl)]
    have:=convS_ok he
    simpa only[effA,ho,e1,hx] using this
   ·exact plain h
  ·exact plain h
 ·rename_i t x i ho
  split at h
  ·rename_i s w hu hx hi
   split at h
   ·rename_i b k hk
    simp only[Option.some.injEq] at h;subst h
    intro hb
    rw[Bool.and_eq_true] at hb
    rw[effB_of (by rw[ho];rfl)]
    have hlt:k<s.length:=by rw[←lenN_eq];exact blt_iff.1 hb.2
    have hg:getN s k=some (nthU s k):=by rw[getN_eq];simp[nthU,hlt]
    simp[effA,ho,e2,hx,hi,indexA,natS_ok hk hb.1,hu,hg,valO]
   ·cases h
  ·exact plain h
 ·rename_i t l c ho
  split at h
  ·rename_i l' c' hl hc
   rw[effB_of (by rw[ho];rfl)]
   have:=makeS_ok h
   simpa only[effA,ho,e2,hl,hc] using this
  ·cases h
 ·rename_i t x lo hi mx ho
  split at h
  ·rename_i x' lo' hi' mx' h1 h2 h3 h4
   rw[effB_of (by rw[ho];rfl)]
   have e:effA P G ev o=sliceA P t x' lo' hi' mx':=by simp only[effA,ho,eSlice,h1,h2,h3,h4]
   rw[e]
   split at h
   ·rename_i es' he
    simp only[Option.some.injEq] at h;subst h
    exact sliceS_ok he
   ·split at h
    ·rename_i e' he
     simp only[Option.some.injEq] at h;subst h
     exact he
    ·cases h
  ·cases h
 ·rename_i c ho
  split at h
  ·rename_i s x hc hargs
   rw[effB_of (by rw[ho];rfl)]
   have e:effA P G ev o=appendA P c.argTypes s x:=by simp only[effA,ho,eCall,hargs,hc,builtinA]
   rw[e]
   split at h
   ·rename_i es' he
    simp only[Option.some.injEq] at h;subst h
    exact appendS_ok he
   ·split at h
    ·rename_i e' he
     simp only[Option.some.injEq] at h;subst h
     exact he
    ·cases h
  ·rename_i d x hc hargs
   rw[effB_of (by rw[ho];rfl)]
   have e:effA P G ev o=copyA P c.argTypes d x:=by simp only[effA,ho,eCall,hargs,hc,builtinA]
   rw[e]
   split at h
   ·rename_i es' he
    simp only[Option.some.injEq] at h;subst h
    exact copyS_ok he
   ·split at h
    ·rename_i e' he
     simp only[Option.some.injEq] at h;subst h
     exact he
    ·cases h
  ·exact plain h
 ·exact plain h
variable {O:Opts} {n:Nat} {A:Aid}
structure AidOk (P:Program) (O:Opts) (A:Aid):Prop where
 cx:CallOk P O.glob A.cx∧CallLoc A.cx
 sum:∀f args v,O.summ f args=some v→SemCall P O.glob f args v
 inl:∀f T,A.inl f=some T→∀args h nx K,T.run args h nx K→∃v h' nx',K v h' nx'∧BodySem P O.glob f args h nx v h' nx'
 cut:∀r C,A.cut r=some C→∀nx0 s K,C s K→∃s2,(∀w0 I0 α0 H0 D a w,(∀id,nx0≤id→α0 id=none)→CR O.glob w0 I0 α0 H0 nx0 D s a w→CR O.glob w0 I0 α0 H0 nx0 D s2 a w)∧K s2
theorem noCall_ok {G:Glob}:CallOk P G (fun _ _ _ _ _=>none)∧CallLoc (fun _ _ _ _ _=>none):=by
 refine ⟨?_, ?_⟩
 ·intro f args rid H nx v H' nx' ft h;cases h
 ·intro f args id h nx v h' nx' ft hc;cases hc
abbrev GoodCall (P:Program) (G:Glob) (call:Caller):Prop:=CallOk P G call∧CallLoc call
theorem plainK_ok (B:Base P O n) {id d:Nat} {e:Eff} {h:Heap} {nx:Nat} {K:AV→Heap→Nat→Foot→Prop} (hk:plainK P O n id d e h nx K):
  ∃call,GoodCall P O.glob call∧∃v h' nx' ft,runEff call id d e h nx=some (v,h',nx',ft)∧K v h' nx' ft:=by
 unfold plainK at hk
 split at hk
 ·rename_i v h' nx' ft hr
  exact ⟨_,B.calls,v,h',nx',ft,hr,hk⟩
 ·exact hk.elim
theorem runEff_call {call:Caller} {id d:Nat} {f:FuncId} {args:List AV} {h:Heap} {nx:Nat}:runEff call id d (.call f args) h nx=call f args id h nx:=by cases d<;>rfl
noncomputable def partC (f0:FuncId) (args0:List AV) (L:List Nat) (H0:Heap) (nx0:Nat) (v:AV) (H2:Heap) (m:Nat):Caller:=by
 classical exact fun f args _ h nx=>if f=f0∧args=args0∧nx=nx0∧cutH h L=H0 then some (v,partH L H2 nx h,nx+m,⟨true,L,nx::L⟩) else none
theorem partC_ok {G:Glob} {f0:FuncId} {args0:List AV} {L:List Nat} {H0:Heap} {nx0:Nat} {v:AV} {H2:Heap} {m:Nat} (hB:BodySem P G f0 args0 H0 nx0 v H2 (nx0+m)):CallOk P G (partC f0 args0 L H0 nx0 v H2 m)∧CallLoc (partC f0 args0 L H0 nx0 v H2 m):=by
 refine ⟨?_, ?_⟩
 ·intro f args rid H nx v1 H' nx' ft hc w I α vs hr ha hrid hlt hf
  unfold partC at hc
  split at hc
  ·rename_i he
   obtain ⟨rfl,rfl,rfl,rfl⟩:=he
   simp only[Option.some.injEq,Prod.mk.injEq] at hc
   obtain ⟨rfl,rfl,rfl,rfl⟩:=hc
   obtain ⟨e1,e2⟩:=hB w I α vs (rel_cut hr L) ha hf
   rw[e1]
   refine Calls.mono e2 ?_
   rintro e w' ⟨u,rfl,hp⟩
   exact ⟨u,rfl,post_part hr hf hp⟩
  ·cases hc
 ·intro f args id hp nx v1 h' nx' ft hc
  unfold partC at hc
  split at hc
  ·rename_i he
   obtain ⟨rfl,rfl,rfl,rfl⟩:=he
   simp only[Option.some.injEq,Prod.mk.injEq] at hc
   obtain ⟨rfl,rfl,rfl,rfl⟩:=hc
   refine ⟨fun h=>(by cases h),fun _ n l hw=> ?_⟩
   simp only[List.cons.injEq] at hw
   obtain ⟨rfl,rfl⟩:=hw
   refine ⟨rfl,by omega,_,rfl,fun p hp=> ?_,fun h2 hk=> ?_⟩
   ·rw[catM_app] at hp
    rcases List.mem_append.1 hp with hp|hp
    ·exact .inl (oldM_mem hp).1
    ·exact .inr (newM_mem hp).1
   ·have hC:cutH h2 L=cutH hp L:=cutH_congr _ fun i hi=>hk i (by simp[hi])
    unfold partC
    rw[if_pos ⟨rfl,rfl,rfl,hC⟩]
    rfl
  ·cases hc
theorem semK_ok {f:FuncId} {args:List AV} {h:Heap} {nx id d:Nat} {K:AV→Heap→Nat→Foot→Prop} {r:SemR} (hk:semK P O f args h nx K r):
  ∃call,GoodCall P O.glob call∧∃v h' nx' ft,runEff call id d (.call f args) h nx=some (v,h',nx',ft)∧K v h' nx' ft:=by
 cases r with
 |val v=>exact ⟨_,tabC_ok hk.1,v,h,nx,_,by rw[runEff_call];unfold tabC;rw[if_pos ⟨rfl,rfl⟩],hk.2⟩
 |part L v H2 m=>exact ⟨_,partC_ok (L:=L) hk.1,v,_,_,_,by rw[runEff_call];unfold partC;rw[if_pos ⟨rfl,rfl,rfl,rfl⟩],hk.2⟩
theorem effK_ok (B:Base P O n) (hA:AidOk P O A) {id:Nat}:∀ (d:Nat) (e:Eff) {h:Heap} {nx:Nat} {K:AV→Heap→Nat→Foot→Prop},effK P O n A id d e h nx K→
    ∃call,GoodCall P O.glob call∧∃v h' nx' ft,runEff call id d e h nx=some (v,h',nx',ft)∧K v h' nx' ft:=by
  have callCase:∀ (d:Nat) (f:FuncId) (args:List AV) {h:Heap} {nx:Nat} {K:AV→Heap→Nat→Foot→Prop},(match A.cx f args id h nx with
      |some (v,h',nx',ft)=>K v h' nx' ft
      | none=>match A.sem f args h nx with
       |some r=>semK P O f args h nx K r
       | none=>match A.inl f with
        |some T=>inlK args h nx K T
        |none=>match O.how f with
         | .pure=>match O.summ f args with
           |some v=>oblB (closedAll args) (K v h nx ⟨false,[],[]⟩)
           |none=>plainK P O n id d (.call f args) h nx K
         |_=>plainK P O n id d (.call f args) h nx K)→∃call,GoodCall P O.glob call∧∃v h' nx' ft,runEff call id d (.call f args) h nx=some (v,h',nx',ft)∧K v h' nx' ft:=by
    intro d f args h nx K hk
    split at hk
    · rename_i v h' nx' ft hc
      exact ⟨_,hA.cx,v,h',nx',ft,by rw[runEff_call];exact hc,hk⟩
    · split at hk
      · exact semK_ok hk
      split at hk
      · rename_i T hT
        obtain ⟨v,H2,nx2,hK,hB⟩:=hA.inl f T hT _ _ _ _ hk
        obtain ⟨hle,hK⟩:=oblB_iff.1 hK
        have hle:=Nat.le_of_ble_eq_true hle
        obtain ⟨m,rfl⟩:∃m,nx2=nx+m:=⟨nx2-nx,by omega⟩
        exact ⟨_,partC_ok (L:=T.see args h) hB,v,_,_,_,by rw[runEff_call];unfold partC;rw[if_pos ⟨rfl,rfl,rfl,rfl⟩],hK⟩
      split at hk
      · split at hk
        · rename_i v hs
          obtain ⟨_,hk⟩:=oblB_iff.1 hk
          exact ⟨_,tabC_ok (hA.sum f args v hs),v,h,nx,_,by rw[runEff_call];unfold tabC;rw[if_pos ⟨rfl,rfl⟩],hk⟩
        · exact plainK_ok B hk
      · exact plainK_ok B hk
  intro d
  induction d with
  | zero=>
    intro e h nx K hk
    unfold effK at hk
    split at hk
    · exact callCase 0 _ _ hk
    · exact plainK_ok B hk
  | succ d ih=>
    intro e h nx K hk
    unfold effK at hk
    split at hk
    · exact callCase (d+1) _ _ hk
    · rename_i i k
      split at hk
      · rename_i b hb
        split at hk
        · rename_i e' he
          obtain ⟨call,hc,v,h',nx',ft,hr,hK⟩:=ih e' hk
          exact ⟨call,hc,v,h',nx',_,by simp only[runEff,hb,he,hr],hK⟩
        · exact hk.elim
      · exact hk.elim
    · exact plainK_ok B hk
def StepOk (P:Program) (G:Glob) (ops:List Oper) (id:Nat) (o:Oper) (s:St) (K:St→Foot→Prop):Prop:=
 ∃call,GoodCall P G call∧∃s' ft,stepA P G call ops id o s=some (s',ft)∧K s' ft
theorem step_of {ops:List Oper} {id:Nat} {o:Oper} {s:St} {K:St→Foot→Prop} (hw:wantedA ops o s.slots=some true) {call:Caller} (hc:GoodCall P O.glob call) {e:Eff} (he:effB P O.glob ops (evA s.slots) o=some e)
  {v:AV} {h:Heap} {nx:Nat} {ft:Foot} (hr:runEff call id 2 e s.heap s.nx=some (v,h,nx,ft)) (hk:K ⟨putA s.n s.slots o.dst v,h,nx,s.n⟩ ft):StepOk P O.glob ops id o s K:=
 ⟨call,hc,_,ft,by unfold stepA;simp only[hw,he,hr],hk⟩
theorem esK_ok (B:Base P O n) (hA:AidOk P O A) {ops:List Oper} {id:Nat} {o:Oper} {s:St} {K:St→Foot→Prop} (hw:wantedA ops o s.slots=some true)
  (hk:esK P O n A id s.heap s.nx (fun v h nx ft=>K ⟨putA s.n s.slots o.dst v,h,nx,s.n⟩ ft) (effS P O.glob ops (evA s.slots) o)):StepOk P O.glob ops id o s K:=by
 cases hs:effS P O.glob ops (evA s.slots) o with
 |none=>rw[hs] at hk;exact hk.elim
 | some es=>
  rw[hs] at hk
  have hok:=effS_ok hs
  cases es with
  |eff e=>
   obtain ⟨call,hc,v,h',nx',ft,hr,hK⟩:=effK_ok B hA 2 e hk
   exact step_of hw hc hok hr hK
  |obl b e=>
   obtain ⟨hb,hk⟩:=oblB_iff.1 hk
   obtain ⟨call,hc,v,h',nx',ft,hr,hK⟩:=effK_ok B hA 2 e hk
   exact step_of hw hc (hok hb) hr hK
  | app b i k v=>
   obtain ⟨hb,hk⟩:=oblB_iff.1 hk
   obtain ⟨kk,he,hkk⟩:=hok hb
   split at hk
   ·rename_i l hl
    obtain ⟨hb2,hk⟩:=oblB_iff.1 hk
    exact step_of hw B.calls he (by simp only[runEff,hl,hkk l hb2]) hk
   ·exact hk.elim
  | put b i k v=>
   obtain ⟨hb,hk⟩:=oblB_iff.1 hk
   obtain ⟨kk,he,hkk⟩:=hok hb
   split at hk
   ·rename_i l hl
    obtain ⟨hb2,hk⟩:=oblB_iff.1 hk
    exact step_of hw B.calls he (by simp only[runEff,hl,hkk l hb2]) hk
   ·exact hk.elim
  | pick b x y=>
   simp only[esK] at hk
   split at hk
   ·split at hk
    ·exact step_of hw B.calls ((hok.1 rfl).trans rfl) rfl hk
    ·exact hk.elim
   ·split at hk
    ·exact step_of hw B.calls ((hok.2 rfl).trans rfl) rfl hk
    ·exact hk.elim
theorem noNest_ok:NestOk P O (fun _ _ _ _ _=>none):=fun _ _ _ _ _ _ _ _ _ h=>by cases h
theorem resOf_ok {G:Glob} {ops:List Oper} {ev:Operand→Option AV} {o:Oper} {r:AV} {p:Prop} (h:resOf P ev o r=some p) (hp:p):effB P G ops ev o=some (.val r):=by
 unfold resOf at h
 split at h
 ·rename_i s d x ho
  split at h
  ·rename_i v hx
   simp only[Option.some.injEq] at h;subst h
   rw[effB_of (by rw[ho];rfl)]
   simp only[effA,ho,e1,hx,hp]
  ·cases h
 ·rename_i t x i ho
  split at h
  ·rename_i v w hx hi
   simp only[Option.some.injEq] at h;subst h
   rw[effB_of (by rw[ho];rfl)]
   simp only[effA,ho,e2,hx,hi,hp,valO]
  ·cases h
 ·rename_i t x i ho
  split at h
  ·rename_i v w hx hi
   simp only[Option.some.injEq] at h;subst h
   rw[effB_of (by rw[ho];rfl)]
   simp only[effA,ho,e2,hx,hi,hp,valO]
  ·cases h
 ·rename_i t x lo hi mx ho
  split at h
  ·rename_i x' lo' hi' mx' h1 h2 h3 h4
   simp only[Option.some.injEq] at h;subst h
   rw[effB_of (by rw[ho];rfl)]
   simp only[effA,ho,eSlice,h1,h2,h3,h4,hp]
  ·cases h
 ·rename_i op t x y g ho
  split at h
  ·rename_i v w hx hi
   simp only[Option.some.injEq] at h;subst h
   rw[effB_of (by rw[ho];rfl)]
   simp only[effA,ho,e2,hx,hi,hp,valO]
  ·cases h
 ·rename_i c ho
  split at h
  ·rename_i b args hc ha
   simp only[Option.some.injEq] at h;subst h
   rw[effB_of (by rw[ho];rfl)]
   simp only[effA,ho,eCall,ha,hc,hp]
  ·cases h
 ·cases h
theorem hintK_ok (B:Base P O n) (hA:AidOk P O A) {ops:List Oper} {id:Nat} {o:Oper} {s:St} {K:St→Foot→Prop} {a:Hint} (hw:wantedA ops o s.slots=some true)
  (hk:hintK P O n A ops id o s (fun v h nx ft=>K ⟨putA s.n s.slots o.dst v,h,nx,s.n⟩ ft) a):StepOk P O.glob ops id o s K:=by
 unfold hintK at hk
 split at hk
 ·split at hk
  ·rename_i e he
   obtain ⟨call,hc,v,h',nx',ft,hr,hK⟩:=effK_ok B hA 2 e hk
   exact step_of hw hc he hr hK
  ·exact hk.elim
 ·split at hk
  ·rename_i a v h nx ft F ha
   obtain ⟨call,hc,hs⟩:=ansT_sem B.calls B.glob noNest_ok hw ha hk.1
   exact ⟨call,hc,_,_,hs,hk.2⟩
  ·exact hk.elim
 ·rename_i v
  split at hk
  ·rename_i t x i ho
   split at hk
   ·rename_i f es w hx hi
    split at hk
    ·rename_i b k e hn he
     split at hk
     ·rename_i sz hsz
      obtain ⟨hg,hk⟩:=hk
      obtain ⟨hb,hk⟩:=oblB_iff.1 hk
      rw[Bool.and_eq_true] at hb
      refine step_of (e:= .val (.fptr v.cells 0)) hw B.calls ?_ rfl hk
      rw[effB_of (by rw[ho];rfl)]
      have hu:P.underlying t=some (.slice e):=by
       unfold elemOfA at he
       split at he
       ·simp only[Option.some.injEq] at he;subst he;assumption
       ·cases he
      have q1:=natS_ok hn hb.1
      simp only[effA,ho,e2,hx,hi,indexAddrA,q1,hu,hsz,hg,hb.2,valO,Option.bind_eq_bind,Option.bind_some,if_true]
     ·exact hk.elim
    ·exact hk.elim
   ·exact hk.elim
  ·exact hk.elim
 ·rename_i v
  split at hk
  ·rename_i t a ho
   split at hk
   ·rename_i i off hx
    split at hk
    ·rename_i l hl
     obtain ⟨hp,hk⟩:=hk
     have he:∃k,effB P O.glob ops (evA s.slots) o=some (.read i k)∧k (.cells l)=some (.val v):=by
      rw[effB_of (by rw[ho];rfl)]
      simp only[effA,ho,e1,hx,loadA]
      exact ⟨_,rfl,by simp only[hp,Option.map_some]⟩
     obtain ⟨k,he,hkl⟩:=he
     exact step_of hw B.calls he (by simp only[runEff,hl,hkl]) hk
    ·exact hk.elim
   ·rename_i cs off hx
    obtain ⟨hp,hk⟩:=hk
    refine step_of (e:= .val v) hw B.calls ?_ rfl hk
    rw[effB_of (by rw[ho];rfl)]
    simp only[effA,ho,e1,hx,loadA,hp,Option.map_some]
   ·rename_i g off hx
    obtain ⟨hp,hk⟩:=hk
    refine step_of (e:= .val v) hw B.calls ?_ rfl hk
    rw[effB_of (by rw[ho];rfl)]
    simp only[effA,ho,e1,hx,hp]
   ·exact hk.elim
  ·exact hk.elim
 ·rename_i r
  split at hk
  ·rename_i p hp
   exact step_of (e:= .val r) hw B.calls (resOf_ok hp hk.1) rfl hk.2
  ·exact hk.elim
def KnOk (kn:Kn) (slots:Tr):Prop:=∀d b,kget kn d=some b→slots.get d=some (.bool b)
theorem evN_eq {kn:Kn} {slots:Tr} (h:KnOk kn slots):evN kn slots=evA slots:=by
 funext x
 unfold evN
 split
 ·split
  ·rename_i b hb
   simp only[evA,h _ b hb]
  ·rfl
 ·rfl
theorem kget_drop {kn:Kn} {k d:Nat} {b:Bool} (h:kget (kdrop kn k) d=some b):d≠k∧kget kn d=some b:=by
  induction kn with
  |nil=>cases h
  | cons p t ih=>
    obtain ⟨e,c⟩:=p
    simp only[kdrop] at h
    split at h
    · rename_i he
      have he:=beq_iff.1 he
      obtain ⟨h1,h2⟩:=ih h
      refine ⟨h1, ?_⟩
      simp only[kget]
      rw[beq_false_of (by rw[he];exact fun h=>h1 h.symm)]
      exact h2
    · rename_i he
      have he:=beq_false_iff.1 he
      simp only[kget] at h⊢
      split at h
      · rename_i hd
        have hd':=beq_iff.1 hd
        exact ⟨fun h'=>he (by omega),h⟩
      · exact ih h
 where
  beq_false_of {a b:Nat} (h:a≠b):Nat.beq a b=false:=beq_false_iff.2 h
theorem KnOk.put {kn:Kn} {slots:Tr} {n:Nat} {dst:Option Tmp} {v:AV} (h:KnOk kn slots):KnOk (kput kn dst) (putA n slots dst v):=by
 intro d b hd
 cases dst with
 |none=>exact h d b hd
 |some e=>
  simp only[kput] at hd
  obtain ⟨h1,h2⟩:=kget_drop hd
  simp only[putA]
  split
  ·rw[Tr.get_set_ne 12 slots v h1];exact h d b h2
  ·exact h d b h2
theorem KnOk.cons {kn:Kn} {slots:Tr} {d:Nat} {b:Bool} (h:KnOk kn slots) (hd:slots.get d=some (.bool b)):KnOk ((d,b)::kn) slots:=by
 intro k c hk
 simp only[kget] at hk
 split at hk
 ·rename_i he
  have he:=beq_iff.1 he
  subst he
  simp only[Option.some.injEq] at hk
  subst hk;exact hd
 ·exact h k c hk
def StepOkN (P:Program) (G:Glob) (ops:List Oper) (id:Nat) (o:Oper) (s:St) (K:Kn→St→Foot→Prop):Prop:=
 StepOk P G ops id o s (fun s' ft=>∃kn',KnOk kn' s'.slots∧K kn' s' ft)
theorem hintK_mono {ops:List Oper} {id:Nat} {o:Oper} {s:St} {K K':AV→Heap→Nat→Foot→Prop} (h:K=K') {a:Hint} (hk:hintK P O n A ops id o s K a):hintK P O n A ops id o s K' a:=h▸hk
theorem goK_ok (B:Base P O n) (hA:AidOk P O A) {rid:Nat} {ops:List Oper} {id i:Nat} {o:Oper} {s:St} {kn:Kn} {K:Kn→St→Foot→Prop} (hkn:KnOk kn s.slots) (hw:wantedA ops o s.slots=some true) (hk:goK P O n A rid ops id i o s kn K):
  StepOkN P O.glob ops id o s K:=by
 have fin:StepOk P O.glob ops id o s (fun s' ft=>s'.slots=s'.slots∧(∃v,s'.slots=putA s.n s.slots o.dst v)∧K (kput kn o.dst) s' ft)→StepOkN P O.glob ops id o s K:=fun ⟨c,h1,s',ft,h2,_,⟨v,hv⟩,h3⟩=>
  ⟨c,h1,s',ft,h2,kput kn o.dst,by rw[hv];exact hkn.put,h3⟩
 refine fin ?_
 unfold goK at hk
 split at hk
 ·refine hintK_ok B hA hw (hintK_mono ?_ hk)
  funext v h nx ft
  simp only[true_and,eq_iff_iff]
  exact ⟨fun h=>⟨⟨v,rfl⟩,h⟩,fun h=>h.2⟩
 ·rw[evN_eq hkn] at hk
  refine esK_ok B hA hw (?_:esK P O n A id s.heap s.nx _ (effS P O.glob ops (evA s.slots) o))
  have:(fun v h nx ft=>K (kput kn o.dst) ⟨putA s.n s.slots o.dst v,h,nx,s.n⟩ ft)=(fun v h nx ft=>(fun (s':St) (ft:Foot)=>s'.slots=s'.slots∧(∃v,s'.slots=putA s.n s.slots o.dst v)∧K (kput kn o.dst) s' ft) ⟨putA s.n s.slots o.dst v,h,nx,s.n⟩ ft):=by
   funext v h nx ft
   simp only[true_and,eq_iff_iff]
   exact ⟨fun h=>⟨⟨v,rfl⟩,h⟩,fun h=>h.2⟩
  rw[←this]
  exact hk
theorem stepK_ok (B:Base P O n) (hA:AidOk P O A) {rid:Nat} {ops:List Oper} {id i:Nat} {o:Oper} {s:St} {kn:Kn} {K:Kn→St→Foot→Prop} (hkn:KnOk kn s.slots) (hk:stepK P O n A rid ops id i o s kn K):StepOkN P O.glob ops id o s K:=by
 have no:∀ {kn:Kn},KnOk kn s.slots→wantedA ops o s.slots=some false→noK o s kn K→StepOkN P O.glob ops id o s K:=fun {kn} hkn hw hk=>
  ⟨_,B.calls,_,_,by unfold stepA;simp only[hw],_,hkn.put,hk⟩
 unfold stepK at hk
 split at hk
 ·rename_i hg
  exact goK_ok B hA hkn (by unfold wantedA;simp only[hg]) hk
 ·rename_i j want hg
  split at hk
  ·rename_i g hj
   split at hk
   ·rename_i d hd
    split at hk
    ·rename_i b hkb
     have hb:=hkn d b hkb
     split at hk
     ·split at hk
      ·exact goK_ok B hA hkn (by unfold wantedA;simp[hg,hj,hd,hb]) hk
      ·exact no hkn (by unfold wantedA;simp[hg,hj,hd,hb]) hk
     ·split at hk
      ·exact no hkn (by unfold wantedA;simp[hg,hj,hd,hb]) hk
      ·exact goK_ok B hA hkn (by unfold wantedA;simp[hg,hj,hd,hb]) hk
    ·split at hk
     ·rename_i b hb
      split at hk
      ·split at hk
       ·exact goK_ok B hA (hkn.cons hb) (by unfold wantedA;simp[hg,hj,hd,hb]) hk
       ·exact no (hkn.cons hb) (by unfold wantedA;simp[hg,hj,hd,hb]) hk
      ·split at hk
       ·exact no (hkn.cons hb) (by unfold wantedA;simp[hg,hj,hd,hb]) hk
       ·exact goK_ok B hA (hkn.cons hb) (by unfold wantedA;simp[hg,hj,hd,hb]) hk
     ·rename_i hb
      exact no hkn (by unfold wantedA;simp[hg,hj,hd,hb]) hk
     ·exact hk.elim
   ·exact hk.elim
  ·exact hk.elim
theorem runOpsK_ok (B:Base P O n) (hA:AidOk P O A) {rid:Nat} {all:List Oper} {base:Nat}:∀ (rest:List Oper) (i:Nat) (s:St) (kn:Kn) (acc:List (Nat × Foot)) {K:St→List (Nat × Foot)→Prop},KnOk kn s.slots→runOpsK P O n A rid all base rest i s kn acc K→
  ∃call,GoodCall P O.glob call∧∃s' feet,runOps P O.glob call all base rest i s acc=some (s',feet)∧K s' feet
 |[],i,s,kn,acc,K,_,hk=>⟨_,B.calls,s,acc,rfl,hk⟩
 |o::rest,i,s,kn,acc,K,hkn,hk=>by
  simp only[runOpsK] at hk
  obtain ⟨c1,h1,s1,ft,hs,kn',hkn',hk⟩:=stepK_ok B hA hkn hk
  obtain ⟨c2,h2,s',feet,hr,hK⟩:=runOpsK_ok B hA rest (i+1) s1 kn' _ hkn' hk
  refine ⟨mixC (base+i) c1 c2,mixC_ok h1 h2,s',feet, ?_,hK⟩
  simp only[runOps]
  rw[stepA_caller (call':=c1) (fun f args hp nx=>by unfold mixC;rw[if_pos rfl]),hs]
  simp only
  rw[runOps_caller (call':=c2) rest (i+1) _ _ fun f args id hp nx hid=>by unfold mixC;rw[if_neg (by omega)]]
  exact hr
def LsOk (P:Program) (G:Glob) (nx0:Nat) (A:Aid) (c:Code):Prop:=
 ∀r L,A.ls r=some L→∀b∈loopsAt c r,∀s Q,L s Q→AWp P G nx0 (.loop b) s Q
theorem loopK_ok {nx0:Nat} {body:Code} {W:St→(AExit→St→Prop)→Prop} (h:∀s Q,W s Q→AWp P O.glob nx0 body s Q):∀ (k:Nat) (s:St) (Q:AExit→St→Prop),loopK W k s Q→ARnd P O.glob nx0 body Q k s
 |0,_,_,hk=>hk
 |k+1,s,Q,hk=>(h s _ hk).mono fun e s' hq=>by
  cases e with
  |normal=>exact loopK_ok h k s' Q hq
  |exit i=>exact hq
  |ret=>exact hq
theorem setC_ok {nx0:Nat} {c:Operand} {b:Bool} {s:St} {code:Code} {G:Glob} {Q:AExit→St→Prop} (hc:evA s.slots c=some (.bool b)) (h:AWp P G nx0 code (setC c b s) Q):AWp P G nx0 code s Q:=by
 cases c with
 | tmp d=>
  have hg:∀k,(putA s.n s.slots (some d) (.bool b)).get k=s.slots.get k:=fun k=>by
   have hc:s.slots.get d=some (.bool b):=hc
   simp only[putA]
   split
   ·by_cases hk:k=d
    ·subst hk
     rcases Tr.get_set_self 12 s.slots (k:=k) (.bool b) with h|h
     ·rw[h,hc]
     ·exact h
    ·exact Tr.get_set_ne 12 s.slots _ hk
   ·rfl
  refine ⟨fun w0 I0 α0 H0 D a w hα hr=>h.out w0 I0 α0 H0 D a w hα ?_⟩
  obtain ⟨⟨I,α,ev,rel,hs,q1,q2,q3⟩,h7,h8,h9,h10,h11⟩:=hr
  exact ⟨⟨I,α,ev,rel,fun k v hv=>hs k v (by rw[←hg k];exact hv),q1,q2,q3⟩,h7,h8,h9,h10,h11⟩
 |_=>exact h
theorem wpK_ok {nx0:Nat} (B:Base P O n) (hA:AidOk P O A):∀ (c:Code) (s:St) (Q:AExit→St→Prop),LsOk P O.glob nx0 A c→wpK P O n A c s Q→AWp P O.glob nx0 c s Q:=by
 intro c
 induction c with
 |skip=>exact fun s Q _ h=> .skip h
 |label l=>exact fun s Q _ h=> .label h
 |exit i=>exact fun s Q _ h=> .exit h
 |ret=>exact fun s Q _ h=> .ret h
 | region rid ops draw=>
  intro s Q _ h
  simp only[wpK] at h
  have reg:∀ {s:St},regK P O n A rid ops draw s Q→AWp P O.glob nx0 (.region rid ops draw) s Q:=fun {s} h=>by
   unfold regK at h
   obtain ⟨call,⟨h1,h2⟩,s',feet,hr,hk⟩:=runOpsK_ok B hA _ _ _ _ _ (fun _ _ h=>by cases h) h
   cases draw with
   |false=>exact .region B.mixed h1 h2 hr (fun h=>by cases h) hk
   |true=>
    obtain ⟨hb,hk⟩:=oblB_iff.1 hk
    rw[Bool.and_eq_true] at hb
    exact .region B.mixed h1 h2 hr (fun _=>hb) hk
  split at h
  ·rename_i C hC
   obtain ⟨s2,hs,hk⟩:=hA.cut rid C hC nx0 s _ h
   exact ⟨fun w0 I0 α0 H0 D a w hα hr=>(reg hk).out w0 I0 α0 H0 D a w hα (hs w0 I0 α0 H0 D a w hα hr)⟩
  ·exact reg h
 |seq a b iha ihb=>
  intro s Q hl h
  refine .seq ((iha s _ (fun r L hL b' hb=>hl r L hL b' (by simp[loopsAt,hb])) h).mono fun e s' hq=> ?_)
  cases e with
  |normal=>exact ihb s' Q (fun r L hL b' hb=>hl r L hL b' (by simp[loopsAt,hb])) hq
  |exit i=>exact hq
  |ret=>exact hq
 | cond c a b iha ihb=>
  intro s Q hl h
  simp only[wpK] at h
  split at h
  ·rename_i t hc
   split at h
   ·exact .cond_true hc (setC_ok hc (iha _ Q (fun r L hL b' hb=>hl r L hL b' (by simp[loopsAt,hb])) h))
   ·exact .cond_false hc (setC_ok hc (ihb _ Q (fun r L hL b' hb=>hl r L hL b' (by simp[loopsAt,hb])) h))
  ·exact h.elim
 |block id body ih=>exact fun s Q hl h=> .block (ih s _ hl h)
 | loop body ih=>
  intro s Q hl h
  simp only[wpK] at h
  split at h
  ·rename_i L hL
   exact hl _ L hL body (by simp[loopsAt]) s Q h
  ·exact .loop O.lf (loopK_ok (fun s Q h=>ih s Q (fun r L hL b' hb=>hl r L hL b' (by simp[loopsAt,hb])) h) _ _ _ h)
 |rangeFunc f p x y _ _=>exact fun s Q _ h=>h.elim
 |scope c _=>exact fun s Q _ h=>h.elim
 |goto l=>exact fun s Q _ h=>h.elim
 |refuse y=>exact fun s Q _ h=>h.elim
def FnLs (P:Program) (G:Glob) (nx0:Nat) (A:Aid) (f:FuncId):Prop:=∀fn c,P.funcs[f]? =some fn→fn.body=some c→LsOk P G nx0 A c
theorem fnLs_none {G:Glob} {nx0:Nat} {f:FuncId} (h:∀r,A.ls r=none):FnLs P G nx0 A f:=fun _ _ _ _ r L hL=>by rw[h] at hL;cases hL
theorem fnK_body {f:FuncId} {args:List AV} {H:Heap} {nx:Nat} {Q:AV→Heap→Nat→Prop} (B:Base P O n) (hA:AidOk P O A) (hl:FnLs P O.glob nx A f) (h:fnK P O n A f args H nx Q):
  ∃fn c,P.funcs[f]? =some fn∧fn.body=some c∧(fn.name== "runtime.NumGoroutine")=false∧(Nat.ble (lenN args) fn.ntmps&&Nat.ble fn.ntmps 4095)=true∧
   AWp P O.glob nx c ⟨argsT args 0 .tip,H,nx,fn.ntmps⟩ (fun e s=>(e= .normal∨e= .ret)∧∃l,resA P O.glob s fn.results.toList=some l∧Q (tupA l) s.heap s.nx):=by
 unfold fnK at h
 split at h
 ·rename_i fn hfn
  split at h
  ·rename_i c hc
   split at h
   ·exact h.elim
   ·rename_i hname
    split at h
    ·exact h.elim
    ·rename_i hsz
     refine ⟨fn,c,hfn,hc,hname,hsz,(wpK_ok B hA c _ _ (hl fn c hfn hc) h).mono fun e s hq=> ?_⟩
     split at hq
     ·exact hq.elim
     ·rename_i hne
      split at hq
      ·rename_i l hl
       refine ⟨?_,l,hl,hq⟩
       cases e with
       |normal=>exact .inl rfl
       |ret=>exact .inr rfl
       |exit i=>exact absurd rfl (hne i)
      ·exact hq.elim
  ·exact h.elim
 ·exact h.elim
theorem fnK_sem {f:FuncId} {args:List AV} {v:AV} (B:Base P O n) (hA:AidOk P O A) (hl:FnLs P O.glob 0 A f) (hcl:closedAll args=true)
  (h:fnK P O n A f args [] 0 (fun u H _=>(∃d,freezeA 0 H d u=some v)∧closedA v=true)):SemCall P O.glob f args v:=by
 obtain ⟨fn,c,hfn,hc,hname,hsz,hw⟩:=fnK_body B hA hl h
 refine sem_of_wp B hfn hc hname hsz hcl fun w I a hr=>wp_mono (hw.out w I _ [] [] a w (fun _ _=>rfl) hr) ?_
 rintro e a' w' ⟨x,s',rfl,h2,hx,l,hl,hq⟩
 refine ⟨s',l, ?_,h2,hl,hq.1,hq.2⟩
 rcases hx with rfl|rfl
 ·exact .inl rfl
 ·exact .inr rfl
theorem fnK_bodySem {f:FuncId} {args:List AV} {H:Heap} {nx:Nat} {v:AV} {H':Heap} {nx':Nat} (B:Base P O n) (hA:AidOk P O A) (hl:FnLs P O.glob nx A f)
    (h:fnK P O n A f args H nx (fun u h m=>u=v∧h=H'∧m=nx')):BodySem P O.glob f args H nx v H' nx':=by
  obtain ⟨fn,c,hfn,hc,hname,hsz,hw⟩:=fnK_body B hA hl h
  intro w I α vs r ha hf
  refine body_of_wp' hfn hc hname hsz (fun w I α a hα hr=>wp_mono (hw.out w I α H [] a w hα hr) ?_) w I α vs r ha hf
  rintro e a' w' ⟨x,s',rfl,h2,hx,l,hl,rfl,rfl,rfl⟩
  refine ⟨s',l, ?_,h2,hl,rfl,rfl,rfl⟩
  rcases hx with rfl|rfl
  · exact .inl rfl
  · exact .inr rfl
 where
  body_of_wp' {f:FuncId} {fn:Func} {c:Code} {args:List AV} {H:Heap} {nx:Nat} {v:AV} {H':Heap} {nx':Nat} (hfn:P.funcs[f]? =some fn) (hc:fn.body=some c) (hname:(fn.name== "runtime.NumGoroutine")=false) (hsz:(Nat.ble (lenN args) fn.ntmps&&Nat.ble fn.ntmps 4095)=true)
    (h:∀w I α a,(∀id,nx≤id→α id=none)→CR O.glob w I α H nx [] ⟨argsT args 0 .tip,H,nx,fn.ntmps⟩ a w→c.wp P (fun e a' w'=>∃s l,(exitOf .normal=e∨exitOf .ret=e)∧CR O.glob w I α H nx [] s a' w'∧resA P O.glob s fn.results.toList=some l∧tupA l=v∧s.heap=H'∧s.nx=nx') a w):
    BodySem P O.glob f args H nx v H' nx':=by
    intro w I α vs r ha hf
    rw[Bool.and_eq_true,Nat.ble_eq,Nat.ble_eq,lenN_eq] at hsz
    refine ⟨?_, ?_⟩
    · unfold callFunc
      simp only[Sem.run_bind,run_program,Result.andThen_ok,hfn,hname,hc,Bool.false_eq_true,if_false,Option.isNone_some,Sem.run_pure]
    · refine calls_of_wp hfn hc ?_
      have hvs:args.length=vs.size:=by rw[ha.1];simp
      have hr0:CR O.glob w I α H nx [] ⟨argsT args 0 .tip,H,nx,fn.ntmps⟩ {tmps:=vs++Array.replicate (fn.ntmps-vs.size) undef,defers:=[]} w:=
        ⟨⟨I,α,.refl,r,slots_args ha (by omega),fun i hi=>absurd hi (Nat.not_lt_zero i),hf,fun id h=> .inl h⟩,Nat.le_refl _,Nat.le_refl _,rfl,by simp;omega,hsz.2⟩
      refine wp_mono (h w I α _ hf hr0) fun e a' w' hq=> ?_
      obtain ⟨s,l,he,hr,hl,rfl,rfl,rfl⟩:=hq
      obtain ⟨⟨I',α',h1,h2,h3,_,_,h6⟩,_,h8,h9,_,_⟩:=hr
      obtain ⟨u,e1,e2⟩:=results_sound (P:=P) (fn:=fn) h2 h3 hl
      rcases he with rfl|rfl<;>exact ⟨h9,u,e1,u,rfl,⟨I',α',h1,h2,e2,h6⟩,h8⟩
end
end Go.Proofs.Abs
/- Small laws of the abstract machine's functions: bytes, rows, numbers, what becomes part of a value. -/
namespace Go.Proofs.Abs
open Go
mutual
theorem freezeA_mono {n:Nat} {h:Heap}:∀ {d:Nat} {v r:AV},freezeA n h d v=some r→freezeA n h (d+1) v=some r
 |0,_,_,hv=>by simp[freezeA] at hv
 | d +1,v,r,hv=>by
  have L:∀ {l l':List AV},mapL (freezeA n h d) l=some l'→mapL (freezeA n h (d+1)) l=some l':=fun {l l'} hl=>mapLF_mono hl
  cases v with
  | ptr id off=>
   rw[freezeA] at hv⊢
   split at hv
   ·exact hv
   ·rename_i hb
    split at hv
    ·rename_i l hl
     try rw[hl]
     try simp only
     split at hv
     ·rename_i l' hl';rw[L hl'];exact hv
     ·cases hv
    ·cases hv
  | rsl own id off len sz=>
   rw[freezeA] at hv⊢
   split at hv
   ·exact hv
   ·rename_i hb
    split at hv
    ·rename_i l hl
     try rw[hl]
     try simp only
     split at hv
     ·rename_i es hes
      split at hv
      ·rename_i l' hl';rw[L hl'];exact hv
      ·cases hv
     ·cases hv
    ·cases hv
  |fptr cs off=>
   rw[freezeA] at hv⊢
   split at hv
   ·rename_i l' hl';rw[L hl'];exact hv
   ·cases hv
  |fsl f es=>
   rw[freezeA] at hv⊢
   split at hv
   ·rename_i l' hl';rw[L hl'];exact hv
   ·cases hv
  |agg cs=>
   rw[freezeA] at hv⊢
   split at hv
   ·rename_i l' hl';rw[L hl'];exact hv
   ·cases hv
  |tuple cs=>
   rw[freezeA] at hv⊢
   split at hv
   ·rename_i l' hl';rw[L hl'];exact hv
   ·cases hv
  |func fn a b=>
   rw[freezeA] at hv⊢
   split at hv
   ·rename_i a' b' ha hb;rw[L ha,L hb];exact hv
   ·cases hv
  |iface t v=>
   rw[freezeA] at hv⊢
   split at hv
   ·rename_i l' hl';rw[freezeA_mono hl'];exact hv
   ·cases hv
  |_=>exact hv
theorem mapLF_mono {n:Nat} {h:Heap} {d:Nat}:∀ {l l':List AV},mapL (freezeA n h d) l=some l'→mapL (freezeA n h (d+1)) l=some l'
 |[],_,hl=>by simpa [mapL] using hl
 | a::t,l',hl=>by
  simp only[mapL] at hl⊢
  split at hl
  ·rename_i b hb
   split at hl
   ·rename_i u hu
    simp only[freezeA_mono hb,mapLF_mono hu];exact hl
   ·cases hl
  ·cases hl
end
theorem freezeA_le {n:Nat} {h:Heap} {d e:Nat} {v r:AV} (hd:d≤e) (hv:freezeA n h d v=some r):freezeA n h e v=some r:=by
 induction hd with
 |refl=>exact hv
 |step _ ih=>exact freezeA_mono ih
theorem mapLF_le {n:Nat} {h:Heap} {d e:Nat} {l l':List AV} (hd:d≤e) (hl:mapL (freezeA n h d) l=some l'):mapL (freezeA n h e) l=some l':=by
 induction hd with
 |refl=>exact hl
 |step _ ih=>exact mapLF_mono ih
structure Frz (n:Nat) (h:Heap) (v r:AV):Prop where
 out:∃d,freezeA n h d v=some r
structure FrzL (n:Nat) (h:Heap) (l l':List AV):Prop where
 out:∃d,mapL (freezeA n h d) l=some l'
theorem FrzL.nil {n:Nat} {h:Heap}:FrzL n h [] []:=⟨0,rfl⟩
theorem FrzL.cons {n:Nat} {h:Heap} {a b:AV} {t u:List AV} (h1:Frz n h a b) (h2:FrzL n h t u):FrzL n h (a::t) (b::u):=by
 obtain ⟨d,h1⟩:=h1
 obtain ⟨e,h2⟩:=h2
 exact ⟨max d e,by simp only[mapL,freezeA_le (Nat.le_max_left d e) h1,mapLF_le (Nat.le_max_right d e) h2]⟩
theorem FrzL.append {n:Nat} {h:Heap}:∀ {a b c d:List AV},FrzL n h a b→FrzL n h c d→FrzL n h (a++c) (b++d)
 |[],b,_,_,h1,h2=>by
  obtain ⟨e,h1⟩:=h1
  simp only[mapL,Option.some.injEq] at h1
  subst h1;exact h2
 | x::t,b,c,d,h1,h2=>by
  obtain ⟨e,h1⟩:=h1
  simp only[mapL] at h1
  split at h1
  ·rename_i y hy
   split at h1
   ·rename_i u hu
    simp only[Option.some.injEq] at h1
    subst h1
    exact FrzL.cons ⟨e,hy⟩ (FrzL.append ⟨e,hu⟩ h2)
   ·cases h1
  ·cases h1
theorem Frz.agg {n:Nat} {h:Heap} {l l':List AV} (hl:FrzL n h l l'):Frz n h (.agg l) (.agg l'):=by
 obtain ⟨d,hl⟩:=hl;exact ⟨d+1,by simp only[freezeA,hl]⟩
theorem Frz.tuple {n:Nat} {h:Heap} {l l':List AV} (hl:FrzL n h l l'):Frz n h (.tuple l) (.tuple l'):=by
 obtain ⟨d,hl⟩:=hl;exact ⟨d+1,by simp only[freezeA,hl]⟩
theorem Frz.fsl {n:Nat} {h:Heap} {f:Bool} {l l':List AV} (hl:FrzL n h l l'):Frz n h (.fsl f l) (.fsl f l'):=by
 obtain ⟨d,hl⟩:=hl;exact ⟨d+1,by simp only[freezeA,hl]⟩
theorem Frz.fptr {n:Nat} {h:Heap} {o:Nat} {l l':List AV} (hl:FrzL n h l l'):Frz n h (.fptr l o) (.fptr l' o):=by
 obtain ⟨d,hl⟩:=hl;exact ⟨d+1,by simp only[freezeA,hl]⟩
theorem Frz.rsl {n:Nat} {h:Heap} {own:Bool} {id off len sz:Nat} {c es l':List AV} (hn:Nat.blt id n=false) (hg:hget h id=some (.cells c)) (hc:cutElems sz len (c.drop off)=some es) (hl:FrzL n h es l'):Frz n h (.rsl own id off len sz) (.fsl false l'):=by
 obtain ⟨d,hl⟩:=hl;exact ⟨d+1,by simp only[freezeA,hn,hg,hc,hl]⟩
theorem Frz.ptr {n:Nat} {h:Heap} {id off:Nat} {c l':List AV} (hn:Nat.blt id n=false) (hg:hget h id=some (.cells c)) (hl:FrzL n h c l'):Frz n h (.ptr id off) (.fptr l' off):=by
 obtain ⟨d,hl⟩:=hl;exact ⟨d+1,by simp only[freezeA,hn,hg,hl]⟩
theorem Frz.keepR {n:Nat} {h:Heap} {own:Bool} {id off len sz:Nat} (hn:Nat.blt id n=true):Frz n h (.rsl own id off len sz) (.rsl own id off len sz):=⟨1,by simp only[freezeA,hn]⟩
mutual
theorem Frz.closed {n:Nat} {h:Heap}:∀ (v:AV),closedA v=true→Frz n h v v
 | .ptr _ _,hc=>by simp[closedA] at hc
 | .rsl _ _ _ _ _,hc=>by simp[closedA] at hc
 | .map _,hc=>by simp[closedA] at hc
 | .fptr cs _,hc=> .fptr (FrzL.closed cs (by simpa [closedA] using hc))
 | .fsl _ cs,hc=> .fsl (FrzL.closed cs (by simpa [closedA] using hc))
 | .agg cs,hc=> .agg (FrzL.closed cs (by simpa [closedA] using hc))
 | .tuple cs,hc=> .tuple (FrzL.closed cs (by simpa [closedA] using hc))
 | .func fn a b,hc=>by
  simp only[closedA,Bool.and_eq_true] at hc
  obtain ⟨d,h1⟩:=FrzL.closed (n:=n) (h:=h) a hc.1
  obtain ⟨e,h2⟩:=FrzL.closed (n:=n) (h:=h) b hc.2
  exact ⟨max d e+1,by simp only[freezeA,mapLF_le (Nat.le_max_left d e) h1,mapLF_le (Nat.le_max_right d e) h2]⟩
 | .iface t v,hc=>by
  obtain ⟨d,h1⟩:=Frz.closed (n:=n) (h:=h) v (by simpa [closedA] using hc)
  exact ⟨d+1,by simp only[freezeA,h1]⟩
 | .bool _,_=>⟨1,rfl⟩
 | .int _ _,_=>⟨1,rfl⟩
 | .str _,_=>⟨1,rfl⟩
 | .nilp,_=>⟨1,rfl⟩
 | .gptr _ _,_=>⟨1,rfl⟩
 | .nilsl,_=>⟨1,rfl⟩
 | .nesl,_=>⟨1,rfl⟩
 | .nilmap,_=>⟨1,rfl⟩
 | .nilFunc,_=>⟨1,rfl⟩
 | .nilIface,_=>⟨1,rfl⟩
theorem FrzL.closed {n:Nat} {h:Heap}:∀ (l:List AV),closedAll l=true→FrzL n h l l
 |[],_=> .nil
 |a::t,hc=>by
  simp only[closedAll,Bool.and_eq_true] at hc
  exact .cons (Frz.closed a hc.1) (FrzL.closed t hc.2)
end
def goodEl (sz:Nat) (e:AV):Prop:=e.cells.length=sz∧mkElem e.cells=e
theorem cutElems_flat {sz:Nat}:∀ {es:List AV} (r:List AV),(∀e∈es,goodEl sz e)→cutElems sz es.length (flat es++r)=some es
 |[],r,_=>rfl
 | e::t,r,h=>by
  obtain ⟨h1,h2⟩:=h e (by simp)
  have ih:=cutElems_flat (es:=t) r fun x hx=>h x (by simp[hx])
  have hc:chunk (flat (e::t)++r) 0 sz=some e.cells:=by
   rw[chunk_drop _ _ _ (by simp only[flat,List.length_append];omega)]
   simp only[flat,List.drop_zero,List.append_assoc]
   rw[List.take_left' h1]
  simp only[List.length_cons,cutElems,hc]
  have hd:(flat (e::t)++r).drop sz=flat t++r:=by
   simp only[flat,List.append_assoc]
   rw[List.drop_left' h1]
  rw[hd,ih,h2]
  rfl
theorem Frz.row {n:Nat} {h:Heap} {own:Bool} {id len sz:Nat} {c es:List AV} (hn:Nat.blt id n=false) (hg:hget h id=some (.cells c)) (hc:c=flat es) (hl:len=es.length) (hes:∀e∈es,goodEl sz e) (hcl:closedAll es=true):Frz n h (.rsl own id 0 len sz) (.fsl false es):=by
 subst hc hl
 refine .rsl hn hg ?_ (FrzL.closed es hcl)
 have:=cutElems_flat (es:=es) [] hes
 simpa using this
theorem toBytes_map:∀s:List UInt8,toBytes s=s.map fun b=> .int .u8 (.ofNat b.toNat)
 |[]=>rfl
 |b::t=>by simp only[toBytes,List.map_cons,toBytes_map t]
@[simp] theorem lenN_toBytes (s:List UInt8):lenN (toBytes s)=s.length:=by rw[lenN_eq,toBytes_map];simp
@[simp] theorem flat_toBytes (s:List UInt8):flat (toBytes s)=toBytes s:=(toBytes_flat s).1
@[simp] theorem bytesOf_toB:∀s:List UInt8,bytesOf (toBytes s)=some s
 |[]=>rfl
 | b::t=>by
  have e:UInt8.ofNat (Int.ofNat b.toNat).toNat=b:=by
   show UInt8.ofNat b.toNat=b
   exact UInt8.ofNat_toNat
  simp only[toBytes,bytesOf,bytesOf_toB t,Option.map_some,e]
@[simp] theorem strOf_toBytes (s:List UInt8):strOf (toBytes s)=s:=by simp[strOf]
@[simp] theorem closedAll_toBytes:∀s:List UInt8,closedAll (toBytes s)=true
 |[]=>rfl
 |b::t=>by simp only[toBytes,closedAll,closedA,closedAll_toBytes t,Bool.and_self]
@[simp] theorem allOne_toBytes:∀s:List UInt8,allOne (toBytes s)=true
 |[]=>rfl
 |b::t=>by simp only[toBytes,allOne,AV.one,allOne_toBytes t,Bool.and_self]
@[simp] theorem allSize_toBytes:∀s:List UInt8,allSize 1 (toBytes s)=true
 |[]=>rfl
 |b::t=>by
  have e:lenN (AV.int .u8 (.ofNat b.toNat)).cells=1:=rfl
  simp only[toBytes,allSize,allSize_toBytes t,e,Nat.beq_refl,Bool.and_self]
@[simp] theorem headSize_toBytes (s:List UInt8):headSize 1 (toBytes s)=true:=by cases s<;>rfl
theorem goodEl_toBytes {s:List UInt8}:∀e∈toBytes s,goodEl 1 e:=by
 intro e he
 rw[toBytes_map,List.mem_map] at he
 obtain ⟨b,_,rfl⟩:=he
 exact ⟨rfl,rfl⟩
theorem repE_zero:∀n:Nat,repE (.int .u8 0) n=toBytes (List.replicate n 0)
 |0=>rfl
 |n+1=>by
  simp only[repE,List.replicate_succ,toBytes,repE_zero n]
  rfl
theorem Frz.bytes {n:Nat} {h:Heap} {own:Bool} {id len:Nat} {c:List AV} {s:List UInt8} (hn:Nat.blt id n=false) (hg:hget h id=some (.cells c)) (hc:c=toBytes s) (hl:len=s.length):Frz n h (.rsl own id 0 len 1) (.fsl false (toBytes s)):=
 .row hn hg (by rw[hc,flat_toBytes]) (by rw[hl,toBytes_map];simp) goodEl_toBytes (closedAll_toBytes s)
theorem closedAll_append {a b:List AV}:closedAll (a++b)=(closedAll a&&closedAll b):=by
 induction a with
 |nil=>simp[closedAll]
 |cons x t ih=>simp[closedAll,ih,Bool.and_assoc]
theorem flat_append:∀ (a b:List AV),flat (a++b)=flat a++flat b
 |[],b=>rfl
 |x::t,b=>by simp only[List.cons_append,flat,flat_append t b,List.append_assoc]
theorem ltInt_iff {a b:Int}:ltInt a b=true↔a<b:=by rw[ltInt_eq];simp
theorem ltInt_false {a b:Int}:ltInt a b=false↔b≤a:=by rw[ltInt_eq];simp
theorem beqInt_iff {a b:Int}:beqInt a b=true↔a=b:=by rw[beqInt_eq];simp
theorem beqInt_false {a b:Int}:beqInt a b=false↔a≠b:=by rw[beqInt_eq];simp
theorem beqBytes_iff {a b:List UInt8}:beqBytes a b=true↔a=b:=by rw[beqBytes_eq];simp
theorem wrapA_i64 {n:Int} (h1: -9223372036854775808≤n) (h2:n≤9223372036854775807):wrapA .i64 n=n:=by
 rw[wrapA_eq];exact IntWalk.i64_in _ ⟨by omega,by omega⟩
end Go.Proofs.Abs
/- What arguments are: numbers, texts, slices of plain elements. -/
namespace Go.Proofs.Abs
open Go
theorem exists_list {α:Type} {Q:Nat→α→Prop}:∀ (n:Nat),(∀i,i<n→∃x,Q i x)→∃l:List α,l.length=n∧∀i x,l[i]? =some x→Q i x
 |0,_=>⟨[],rfl,by simp⟩
 | n+1,h=>by
  obtain ⟨l,h1,h2⟩:=exists_list n fun i hi=>h i (by omega)
  obtain ⟨x,hx⟩:=h n (by omega)
  refine ⟨l++[x],by simp[h1],fun i y hy=> ?_⟩
  rcases Nat.lt_or_ge i n with hi|hi
  ·rw[List.getElem?_append_left (by omega)] at hy
   exact h2 i y hy
  ·rw[List.getElem?_append_right (by omega)] at hy
   have:i-l.length=0:=by
    have:=(List.getElem?_eq_some_iff.1 hy).1
    simp at this;omega
   rw[this] at hy
   simp at hy;subst hy
   have:i=n:=by omega
   subst this;exact hx
theorem addr_add {a:Addr} (h:a.spot=none) (n:Nat):a.add n=⟨a.block,a.off+n,none⟩:=by
 obtain ⟨b,o,s⟩:=a
 simp only at h;subst h
 unfold Addr.add
 split
 ·rename_i h0;subst h0;rfl
 ·rfl
section
variable {H:Type} {enc:TypeId × Value→H} {P:Program} {w:World} {base:Nat} {spare:Nat→Bool} {held:Bool} {t e:TypeId} {v:Value} {d:DataW H} {ps:List MemPlace}
def ReadsC (H:Type) (enc:TypeId × Value→H) (P:Program) (w:World) (spare:Nat→Bool) (held:Bool) (e:TypeId) (m:Nat) (p:List AV→Prop):Prop:=
 P.cellsOf e=m∧0<m∧∀ (fuel:Nat) (cs:List Value) (x:DataW H × List MemPlace),cs.length=m→DataW.trod enc P w 0 spare held fuel e cs=some x→∃l,RepL w (fun b=>b<w.heap.size) (fun _=>none) l cs∧p l
theorem cells_get {a:Addr} {n:Nat} {cs:List Value} (h:w.cells? 0 a n=some cs):cs.length=n∧∀j,j<n→w.cell? (a.add j)=cs[j]? :=by
 unfold World.cells? at h
 rw[if_pos (Nat.zero_le _)] at h
 refine ⟨by simpa using mapM_some_length h,fun j hj=> ?_⟩
 exact mapM_some_get h j j (by simp[hj])
theorem open_slice {m:Nat} {p:List AV→Prop} (ht:P.underlying t=some (.slice e)) (he:ReadsC H enc P w spare held e m p) (hok:Value.okWide P w .any base t v) (h:DataW.Trod enc P w 0 spare held t v d ps):
  v= .slice none 0 0∨∃ess:List (List AV),Rep w (fun b=>b<w.heap.size) (fun _=>none) (.fsl false (ess.map mkElem)) v∧(∀c∈ess,p c∧c.length=m)∧ess.length≤maxLen:=by
 obtain ⟨hm,hpos,hread⟩:=he
 obtain ⟨fuel,hd⟩:=h
 simp only[Value.okWide,ht] at hok
 have hv:v.cells.toList=[v]:=by
  cases v with
  |agg cs=>simp[Cell.okWide,Cell.ok,ht] at hok
  |_=>rfl
 rw[hv] at hd
 rcases DataW.trod_slice ht hd with ⟨e1,_⟩|⟨a,len,cap,elems,rest,n,_,e1,_,_,hlc,hcap,hel,hget,_,_⟩
 ·left;simpa using e1
 ·right
  have e1:v= .slice (some a) len cap:=by simpa using e1
  subst e1
  have hspot:a.spot=none:=by
   simp only[Cell.okWide,Cell.ok,ht,World.has] at hok
   exact hok.2.2.2.1
  rw[hm] at hget
  have each:∀i,i<len→∃x:List AV × List Value,w.cells? 0 (a.add (i*m)) m=some x.2∧RepL w (fun b=>b<w.heap.size) (fun _=>none) x.1 x.2∧p x.1∧x.1.length=m:=fun i hi=>by
   have h1:=hget i hi
   have h2:elems[i]? ≠none:=by
    rw[List.getElem?_eq_getElem (by omega)];simp
   cases hc:w.cells? 0 (a.add (i*m)) m with
   |none=>rw[hc] at h1;exact absurd h1.symm h2
   | some cs=>
    rw[hc] at h1
    simp only[Option.bind_some] at h1
    cases hx:elems[i]? with
    |none=>exact absurd hx h2
    |some x=>
     rw[hx] at h1
     obtain ⟨l,hl,hp⟩:=hread n cs x (cells_get hc).1 h1
     exact ⟨(l,cs),rfl,hl,hp,by rw[hl.1];exact (cells_get hc).1⟩
  obtain ⟨xs,hlen,hxs⟩:=exists_list len each
  refine ⟨xs.map (·.1), ?_,fun c hc=> ?_, ?_⟩
  ·have hat:∀ (i:Nat) (u:AV),(List.map mkElem (xs.map (·.1)))[i]? =some u→∃x:List AV × List Value,xs[i]? =some x∧u=mkElem x.1:=fun i u hu=>by
    rw[List.getElem?_map,List.getElem?_map] at hu
    cases hx:xs[i]? with
    |none=>rw[hx] at hu;cases hu
    |some x=>rw[hx] at hu;exact ⟨x,rfl,by simpa using hu.symm⟩
   refine .fsl false _ (some a) len cap m a.block a.off (fun i j=>((xs[i]?.map (·.2)).getD [])[j]?.getD default) (by simp[hlen]) hlc (fun h=>by cases h) (.inl (by rw[←hspot])) (fun hne=> ?_) (fun u hu=> ?_) (fun i u j c hu hc=> ?_) (fun i u j c hu hc=> ?_)
   ·have hpos':0<len:=by
     rcases Nat.eq_zero_or_pos len with h0|h0
     ·have:xs=[]:=List.length_eq_zero_iff.1 (by omega)
      subst this;exact absurd rfl hne
     ·exact h0
    obtain ⟨x,hx⟩:∃x,xs[0]? =some x:=⟨xs[0]'(by omega),List.getElem?_eq_getElem (by omega)⟩
    have:=World.cells?_block (hxs 0 x hx).1 hpos
    rw[addr_add hspot] at this
    exact this
   ·obtain ⟨i,hi⟩:=List.getElem?_of_mem hu
    obtain ⟨x,hx,rfl⟩:=hat i u hi
    rw[mkElem_cells];exact (hxs i x hx).2.2.2
   ·obtain ⟨x,hx,rfl⟩:=hat i u hu
    rw[mkElem_cells] at hc
    obtain ⟨h1,h2,h3,h4⟩:=hxs i x hx
    obtain ⟨y,hy,_⟩:=h2.get hc
    have hj:j<m:=by rw[←h4];exact (List.getElem?_eq_some_iff.1 hc).1
    have:=(cells_get h1).2 j hj
    rw[addr_add hspot,addr_add rfl] at this
    simp only[hx,Option.map_some,Option.getD_some,hy]
    rw[this,hy]
   ·obtain ⟨x,hx,rfl⟩:=hat i u hu
    rw[mkElem_cells] at hc
    obtain ⟨h1,h2,h3,h4⟩:=hxs i x hx
    obtain ⟨y,hy,hr⟩:=h2.get hc
    simpa only[hx,Option.map_some,Option.getD_some,hy] using hr
  ·obtain ⟨x,hx,rfl⟩:=List.mem_map.1 hc
   obtain ⟨i,hi⟩:=List.getElem?_of_mem hx
   exact (hxs i x hi).2.2
  ·simp only[List.length_map,hlen];exact Nat.le_trans hlc hcap
theorem reads_four {i:TypeId} {k:IntKind} {f0 f1 f2 f3:Field} (ht:P.underlying e=some (.struct #[f0,f1,f2,f3])) (h0:f0.type=i∧f0.offset=0) (h1:f1.type=i∧f1.offset=1) (h2:f2.type=i∧f2.offset=2) (h3:f3.type=i∧f3.offset=3)
  (he:P.underlying i=some (.int k)) (hc:P.cellsOf i=1) (hs:P.cellsOf e=4):ReadsC H enc P w spare held e 4 fun l=>∃a b c z:Int,l=[.int k a,.int k b,.int k c,.int k z]∧(k.min≤a∧a≤k.max)∧(k.min≤b∧b≤k.max)∧(k.min≤c∧c≤k.max)∧(k.min≤z∧z≤k.max):=by
 refine ⟨hs,by omega,fun fuel cs x hl h=> ?_⟩
 obtain ⟨xs,n,_,_,_,hxl,hel⟩:=DataW.trod_struct ht h
 have at':∀ (j:Nat) (f:Field),j<4→ #[f0,f1,f2,f3][j]? =some f→f.type=i→f.offset=j→∃z,cs[j]? =some (.int k z)∧k.min≤z∧z≤k.max:=fun j f hj hf hte ho=>by
  have hE:=hel j f hf
  rw[hte,hc,ho,List.getElem?_eq_getElem (by rw[hxl];simpa using hj)] at hE
  obtain ⟨z,e1,_,hw⟩:=DataW.trod_int he hE
  have e7:((cs.drop j).take 1)[0]? =some (.int k z):=by rw[e1];rfl
  rw[List.getElem?_take_of_lt (by omega),List.getElem?_drop] at e7
  exact ⟨z,by simpa using e7,by simpa [Lit.wf] using hw⟩
 obtain ⟨a,ha,wa⟩:=at' 0 f0 (by omega) rfl h0.1 h0.2
 obtain ⟨b,hb,wb⟩:=at' 1 f1 (by omega) rfl h1.1 h1.2
 obtain ⟨c,hc',wc⟩:=at' 2 f2 (by omega) rfl h2.1 h2.2
 obtain ⟨z,hz,wz⟩:=at' 3 f3 (by omega) rfl h3.1 h3.2
 refine ⟨[.int k a,.int k b,.int k c,.int k z], ?_,a,b,c,z,rfl,wa,wb,wc,wz⟩
 have:cs=[.int k a,.int k b,.int k c,.int k z]:=by
  apply List.ext_getElem?
  intro j
  match j with
  |0=>exact ha
  |1=>exact hb
  |2=>exact hc'
  |3=>exact hz
  |j+4=>rw[List.getElem?_eq_none (by omega),List.getElem?_eq_none (by simp)]
 subst this
 exact .cons (.int _ _) (.cons (.int _ _) (.cons (.int _ _) (.cons (.int _ _) .nil)))
end
end Go.Proofs.Abs
/- States seen anew, with rows that are written no more made part of the values. -/
namespace Go.Proofs.Abs
open Go
def FrzB (m:Nat) (h:Heap):Blk→Blk→Prop
 | .cells l,.cells l'=>FrzL m h l l'
 | .siter s p,.siter s' p'=>s=s'∧p=p'
 | .mapb c s l,.mapb c' s' l'=>c=c'∧s=s'∧∃d,mapP (freezeA m h d) l=some l'
 | .miter m a b c,.miter m' a' b' c'=>m=m'∧a=a'∧b=b'∧c=c'
 |_,_=>False
section
variable {G:Glob} {w:World} {I:Nat→Prop} {α:Nat→Option Nat} {H:Heap}
theorem frzB_rep {m b:Nat} {b0 b1:Blk} (r:Rel G w I α H) (hf:FrzB m H b0 b1) (h:BRel w I α b b0):BRel w (Frozen I α H m) α b b1:=by
 cases b0 with
 | cells l=>cases b1 with
  |cells l'=>
   obtain ⟨d,hl'⟩:=hf
   obtain ⟨c,e,h1,h2,h3⟩:=h
   have hlen:=(mapL_get hl').1
   have h4:=(freeze_sound r m d).list hl' h3
   exact ⟨c,e,h1,by rw[hlen];exact h2,by rw[hlen];exact h4⟩
  |_=>exact hf.elim
 |siter s p=>cases b1 with
  |siter s' p'=>obtain ⟨rfl,rfl⟩:=hf;exact h
  |_=>exact hf.elim
 |miter m a b c=>cases b1 with
  |miter m' a' b' c'=>obtain ⟨rfl,rfl,rfl,rfl⟩:=hf;exact h
  |_=>exact hf.elim
 | mapb c s l=>cases b1 with
  |mapb c' s' l'=>
   obtain ⟨rfl,rfl,d,hes⟩:=hf
   obtain ⟨en,h1,h2,h4,h3⟩:=h
   obtain ⟨k1,k2⟩:=mapP_rep (freeze_sound r m d) hes
   refine ⟨en,h1,by rw[k1];exact h2,h4,fun i x' y e1 e2=> ?_⟩
   obtain ⟨x,g1,g2,g3⟩:=k2 i x' e1
   obtain ⟨q1,q2⟩:=h3 i x y g1 e2
   exact ⟨g2 _ q1,g3 _ q2⟩
  |_=>exact hf.elim
end
section
variable {G:Glob} {w0:World} {I0:Nat→Prop} {α0:Nat→Option Nat} {H0:Heap} {nx0:Nat} {D:List Deferred}
theorem CR.freeze {s s2:St} {a:Act} {w:World} (m:Nat) (h:CR G w0 I0 α0 H0 nx0 D s a w) (hn:s2.n=s.n) (hnx:s2.nx=s.nx)
  (hS:∀k v,s2.slots.get k=some v→∃u,s.slots.get k=some u∧Frz m s.heap u v)
  (hH:∀i b,hget s2.heap i=some b→i<m∧∃b1,hget s.heap i=some b1∧FrzB m s.heap b1 b):CR G w0 I0 α0 H0 nx0 D s2 a w:=by
 obtain ⟨⟨I,α,ev,rel,hs,_,hf,hnew⟩,h7,h8,h9,h10,h11⟩:=h
 have hlive:∀i,hget s2.heap i≠none→i<m∧hget s.heap i≠none:=fun i hi=>by
  cases hb:hget s2.heap i with
  |none=>exact absurd hb hi
  |some b=>
   obtain ⟨h1,b1,h2,_⟩:=hH i b hb
   exact ⟨h1,by rw[h2];simp⟩
 have hown:∀b,Owned α s2.heap b→Owned α s.heap b:=fun b ⟨i,h1,h2⟩=>⟨i,(hlive i h1).2,h2⟩
 refine ⟨⟨Frozen I α s.heap m,α,⟨ev.os,fun b hb=> .inl (ev.I_mono b hb),ev.α_mono,ev.size,ev.frame,ev.shape,fun b hb=> ?_,fun b hb=>ev.own b (hown b hb)⟩, ?_, ?_,fun i hi=>absurd hi (Nat.not_lt_zero i),fun id hid=>hf id (by rw[hnx] at hid;exact hid),fun id hid=> ?_⟩,Nat.le_refl _,by rw[hnx];exact h8,h9,by rw[hn];exact h10,by rw[hn];exact h11⟩
 ·rcases hb with hb|⟨id,_,h2,h3⟩
  ·exact ev.Inew b hb
  ·rcases ev.own b ⟨id,h2,h3⟩ with h|h
   ·exact .inr (.inl h)
   ·exact .inr (.inr h)
 ·exact
  {live:=fun i blk hi=>by
    obtain ⟨hm,b1,e2,e3⟩:=hH i blk hi
    obtain ⟨b,k1,k2,k3⟩:=rel.live i b1 e2
    refine ⟨b,k1, ?_,frzB_rep rel e3 k3⟩
    rintro (hb|⟨id,h1,h2,h3⟩)
    ·exact k2 hb
    ·have:=rel.inj id i b h2 (by rw[e2];simp) h3 k1
     omega
   inj:=fun i i' b h1 h2 h3 h4=>rel.inj i i' b (hlive i h1).2 (hlive i' h2).2 h3 h4
   imm:=fun b hb=>by
    rcases hb with hb|⟨id,_,_,h3⟩
    ·exact rel.imm b hb
    ·exact rel.dom id b h3
   dom:=rel.dom
   glob:=fun g l hgl=>by
    obtain ⟨h1,h2⟩:=rel.glob g l hgl
    refine ⟨.inl h1,fun j x hx=> ?_⟩
    obtain ⟨y,e1,e2⟩:=h2 j x hx
    exact ⟨y,e1,e2.mono (fun _ h=> .inl h) (fun _ _ h=>h) (fun _ _ _=>rfl) (fun _ _ _=>rfl)⟩}
 ·intro k v hv
  obtain ⟨u,e1,d,e2⟩:=hS k v hv
  obtain ⟨y,e3,e4⟩:=hs k u e1
  exact ⟨y,e3,freeze_sound rel m d _ _ _ e2 e4⟩
 ·rw[hnx];exact hnew id hid
end
end Go.Proofs.Abs
/- Loops: states by number, seen anew behind each round. -/
namespace Go.Proofs.Abs
open Go
def renOk (lk:List (Nat × Nat)):AV→AV→Prop
 | .ptr i o,u=>match u with
  | .ptr j p=>lookN lk i=some j∧o=p
  |_=>False
 | .rsl w i o l z,u=>match u with
  | .rsl w' j o' l' z'=>w=w'∧lookN lk i=some j∧o=o'∧l=l'∧z=z'
  |_=>False
 | .map i,u=>match u with
  | .map j=>lookN lk i=some j
  |_=>False
 |v,u=>u=v∧closedA v=true
theorem renOk_sound {lk:List (Nat × Nat)} {v u:AV} (h:renOk lk v u):RenV lk v u:=by
 unfold renOk at h
 split at h
 ·split at h
  ·obtain ⟨h1,rfl⟩:=h;exact .ptr _ _ _ h1
  ·exact h.elim
 ·split at h
  ·obtain ⟨rfl,h1,rfl,rfl,rfl⟩:=h;exact .rsl _ _ _ _ _ _ h1
  ·exact h.elim
 ·split at h
  ·exact .map _ _ h
  ·exact h.elim
 ·obtain ⟨rfl,hc⟩:=h;exact .same _ hc
def renCells (lk:List (Nat × Nat)):List AV→List AV→Prop
 |[],[]=>True
 |a::t,b::u=>renOk lk a b∧renCells lk t u
 |_,_=>False
theorem renCells_at {lk:List (Nat × Nat)}:∀ {l l':List AV},renCells lk l l'→l.length=l'.length∧∀ (i:Nat) x y,l[i]? =some x→l'[i]? =some y→RenV lk x y
 |[],[],_=>⟨rfl,fun i x y h=>by simp at h⟩
 |a::t,b::u,h=>by
  obtain ⟨h1,h2⟩:=renCells_at h.2
  refine ⟨by simp[h1],fun i x y hx hy=> ?_⟩
  cases i with
  |zero=>simp only[List.getElem?_cons_zero,Option.some.injEq] at hx hy;subst hx;subst hy;exact renOk_sound h.1
  |succ i=>exact h2 i x y (by simpa using hx) (by simpa using hy)
 |[],_::_,h=>h.elim
 |_::_,[],h=>h.elim
def renOkR (lk:List (Nat × Nat)):AV→AV→Prop
 | .func fn f c,u=>match u with
  | .func fn' f' c'=>(fn=fn'∧f=f'∧closedAll f=true)∧renCells lk c c'
  |_=>False
 | .iface t v,u=>match u with
  | .iface t' v'=>t=t'∧renOk lk v v'
  |_=>False
 |v,u=>renOk lk v u
theorem renOkR_sound {lk:List (Nat × Nat)} {v u:AV} (h:renOkR lk v u):RenV lk v u:=by
 unfold renOkR at h
 split at h
 ·split at h
  ·obtain ⟨⟨rfl,rfl,hf⟩,hc⟩:=h
   obtain ⟨h1,h2⟩:=renCells_at hc
   exact .func _ _ _ _ hf h1 h2
  ·exact h.elim
 ·split at h
  ·obtain ⟨rfl,h⟩:=h;exact .iface _ (renOk_sound h)
  ·exact h.elim
 ·exact renOk_sound h
inductive Mode where
 |whole
 |each
 |rel
 |split (pre suf old:List AV)
structure RenR (lk:List (Nat × Nat)) (l l':List AV):Prop where
 out:RenL lk l l'
def closedP:List (AV × AV)→Bool
 |[]=>true
 |(a,b)::t=>closedA a&&(closedA b&&closedP t)
theorem RenP.same (lk:List (Nat × Nat)):∀ {l:List (AV × AV)},closedP l=true→RenP lk l l
 |[],_=>trivial
 |(a,b)::t,h=>by
  simp only[closedP,Bool.and_eq_true] at h
  exact ⟨.same a h.1,.same b h.2.1,RenP.same lk h.2.2⟩
def renBlk (lk:List (Nat × Nat)) (mode:Mode):Blk→Blk→Prop
 | .cells l,.cells l'=>match mode with
  | .whole=>l'=l∧closedAll l=true
  | .each=>renCells lk l l'
  | .rel=>RenR lk l l'
  | .split pre suf old=>(l=pre++suf∧l'=pre++old)∧(closedAll pre=true∧renCells lk suf old)
 | .siter s p,.siter s' p'=>s=s'∧p=p'
 | .miter m a b c,.miter m' a' b' c'=>a=a'∧b=b'∧c=c'∧lookN lk m=some m'
 | .mapb c s l,.mapb c' s' l'=>(c=c'∧s=s'∧l'=l)∧closedP l=true
 |_,_=>False
theorem renCells_sound {lk:List (Nat × Nat)}:∀ {l l':List AV},renCells lk l l'→RenL lk l l'
 |[],[],_=>trivial
 |_a::_t,_b::_u,h=>⟨renOk_sound h.1,renCells_sound h.2⟩
 |[],_::_,h=>h.elim
 |_::_,[],h=>h.elim
theorem RenL.append' {lk:List (Nat × Nat)}:∀ {a b c d:List AV},RenL lk a b→RenL lk c d→RenL lk (a++c) (b++d)
 |[],[],_,_,_,h=>h
 |_::_,_::_,_,_,h1,h2=>⟨h1.1,RenL.append' h1.2 h2⟩
 |[],_::_,_,_,h,_=>h.elim
 |_::_,[],_,_,h,_=>h.elim
theorem renBlk_sound {lk:List (Nat × Nat)} {wh:Mode} {b b':Blk} (h:renBlk lk wh b b'):RenB lk b b':=by
 cases b with
 | cells l=>cases b' with
  | cells l'=>
   simp only[renBlk] at h
   split at h
   ·obtain ⟨rfl,hc⟩:=h;exact RenL.same lk hc
   ·exact renCells_sound h
   ·exact h.out
   ·obtain ⟨⟨rfl,rfl⟩,hc,h⟩:=h
    exact RenL.append' (RenL.same lk hc) (renCells_sound h)
  |_=>exact h.elim
 |siter s p=>cases b' with
  |siter s' p'=>exact h
  |_=>exact h.elim
 |miter m a b c'=>cases b' with
  |miter m' a' b' c'=>exact h
  |_=>exact h.elim
 | mapb c s l=>cases b' with
  |mapb c' s' l'=>
   obtain ⟨⟨rfl,rfl,rfl⟩,hc⟩:=h
   exact ⟨rfl,rfl,RenP.same lk hc⟩
  |_=>exact h.elim
abbrev Heap2:=List (Nat × Blk × Mode)
def Heap2.heap:Heap2→Heap
 |[]=>[]
 |(i,b,_)::t=>(i,some b)::Heap2.heap t
def seeSlots (lk:List (Nat × Nat)) (g:Nat→Option AV):List (Nat × AV)→Prop
 |[]=>True
 |(k,v)::t=>(match g k with
  |some u=>renOkR lk v u
  |none=>False)∧seeSlots lk g t
def seeWhole (g:Nat→Option AV):List (Nat × AV)→Prop
 |[]=>True
 |(k,v)::t=>(match g k with
  |some u=>u=v∧closedA v=true
  |none=>False)∧seeWhole g t
def seeHeap (lk:List (Nat × Nat)) (g:Nat→Option Blk):Heap2→Prop
 |[]=>True
 | (i,b,wh)::t=>(match lookN lk i with
  |some j=>match g j with
   |some c=>renBlk lk wh b c
   |none=>False
  |none=>False)∧seeHeap lk g t
structure View where
 slots:List (Nat × AV)
 refs:List (Nat × AV)
 heap:Heap2
 nx:Nat
 n:Nat
noncomputable def View.st (V:View):St:=⟨sl (V.slots++V.refs),V.heap.heap,V.nx,V.n⟩
def noDup:List Nat→Bool
 |[]=>true
 |a::t=> !memN t a&&noDup t
def lkOk (nx0 nx:Nat) (lk:List (Nat × Nat)):Bool:=noDup (lk.map (·.2))&&(allLt (lk.map (·.1)) nx&&Nat.ble nx0 nx)
def lowLk (lk:List (Nat × Nat)):Nat→Bool
 |0=>true
 |n+1=>(match lookN lk n with
  |some j=>Nat.beq j n
  |none=>false)&&lowLk lk n
def seesK (nx0:Nat) (lk:List (Nat × Nat)) (V:View) (s:St):Prop:=
 oblB (lkOk nx0 V.nx lk&&(lowLk lk nx0&&Nat.beq V.n s.n)) (seeWhole s.slots.get V.slots∧(seeSlots lk s.slots.get V.refs∧seeHeap lk (hget s.heap) V.heap))
def Says2 (G:Glob) (nx0:Nat) (s s2:St):Prop:=
 ∀w0 I0 α0 H0 D a w,(∀id,nx0≤id→α0 id=none)→CR G w0 I0 α0 H0 nx0 D s a w→CR G w0 I0 α0 H0 nx0 D s2 a w
theorem noDup_iff:∀ {l:List Nat},noDup l=true→l.Nodup
 |[],_=> .nil
 |a::t,h=>by
  simp only[noDup,Bool.and_eq_true,Bool.not_eq_true'] at h
  refine List.nodup_cons.2 ⟨fun hm=> ?_,noDup_iff h.2⟩
  rw[memN_iff.2 hm] at h;exact Bool.noConfusion h.1
theorem lowLk_iff {lk:List (Nat × Nat)}:∀ {n:Nat},lowLk lk n=true→∀i,i<n→lookN lk i=some i
 |0,_=>by simp
 | n+1,h=>fun i hi=>by
  simp only[lowLk,Bool.and_eq_true] at h
  rcases Nat.lt_or_ge i n with h'|h'
  ·exact lowLk_iff h.2 i h'
  ·have:i=n:=by omega
   subst this
   have h1:=h.1
   split at h1
   ·rename_i j hj;rw[hj,beq_iff.1 h1]
   ·cases h1
theorem heap2_mem {H2:Heap2} {i:Nat} {b:Blk} (h:hget H2.heap i=some b):∃wh,(i,b,wh)∈H2:=by
 induction H2 with
 |nil=>simp[Heap2.heap,hget] at h
 | cons p t ih=>
  obtain ⟨j,c,wh⟩:=p
  simp only[Heap2.heap,hget] at h
  split at h
  ·rename_i he
   have he:=beq_iff.1 he
   simp only[Option.some.injEq] at h
   subst he;subst h
   exact ⟨wh,by simp⟩
  ·obtain ⟨wh,hm⟩:=ih h
   exact ⟨wh,by simp[hm]⟩
theorem seeSlots_at {lk:List (Nat × Nat)} {g:Nat→Option AV}:∀ {L:List (Nat × AV)},seeSlots lk g L→∀k v,(k,v)∈L→∃u,g k=some u∧RenV lk v u
 |[],_,_,_,h=>by cases h
 | (k',v')::t,h,k,v,hm=>by
  rcases List.mem_cons.1 hm with e|hm
  ·cases e
   have h1:=h.1
   split at h1
   ·rename_i u hu;exact ⟨u,hu,renOkR_sound h1⟩
   ·exact h1.elim
  ·exact seeSlots_at h.2 k v hm
theorem seeWhole_at {lk:List (Nat × Nat)} {g:Nat→Option AV}:∀ {L:List (Nat × AV)},seeWhole g L→∀k v,(k,v)∈L→∃u,g k=some u∧RenV lk v u
 |[],_,_,_,h=>by cases h
 | (k',v')::t,h,k,v,hm=>by
  rcases List.mem_cons.1 hm with e|hm
  ·cases e
   have h1:=h.1
   split at h1
   ·rename_i u hu
    obtain ⟨rfl,hc⟩:=h1
    exact ⟨u,hu,.same _ hc⟩
   ·exact h1.elim
  ·exact seeWhole_at h.2 k v hm
theorem seeHeap_at {lk:List (Nat × Nat)} {g:Nat→Option Blk}:∀ {H2:Heap2},seeHeap lk g H2→∀i b wh,(i,b,wh)∈H2→∃j b1,lookN lk i=some j∧g j=some b1∧RenB lk b b1
 |[],_,_,_,_,h=>by cases h
 | (i',b',wh')::t,h,i,b,wh,hm=>by
  rcases List.mem_cons.1 hm with e|hm
  ·cases e
   have h1:=h.1
   split at h1
   ·rename_i j hj
    split at h1
    ·rename_i c hc;exact ⟨j,c,hj,hc,renBlk_sound h1⟩
    ·exact h1.elim
   ·exact h1.elim
  ·exact seeHeap_at h.2 i b wh hm
theorem seesK_says {G:Glob} {nx0:Nat} {lk:List (Nat × Nat)} {V:View} {s:St} (hg:∀g l,G g=some l→closedAll l=true) (h:seesK nx0 lk V s):Says2 G nx0 s V.st:=by
 obtain ⟨hb,h0,h1,h2⟩:=oblB_iff.1 h
 simp only[lkOk,Bool.and_eq_true] at hb
 obtain ⟨⟨b1,b2,b3⟩,b4,b5⟩:=hb
 intro w0 I0 α0 H0 D a w hα hr
 refine hr.turnIn lk hg hα (beq_iff.1 b5) (fun k v hv=>by
   rcases List.mem_append.1 (sl_get hv) with hm|hm
   ·exact seeWhole_at h0 k v hm
   ·exact seeSlots_at h1 k v hm) (fun i b hi=> ?_) (noDup_iff b1) (fun i hi=> ?_) (lowLk_iff b4) (Nat.le_of_ble_eq_true b3)
 ·obtain ⟨wh,hm⟩:=heap2_mem hi
  exact seeHeap_at h2 i b wh hm
 ·cases hl:lookN lk i with
  |none=>rfl
  |some j=>
   have:=allLt_iff b2 i (List.mem_map.2 ⟨_,lookN_mem hl,rfl⟩)
   have hi:V.nx≤i:=hi
   omega
def frzSlots (m:Nat) (h:Heap) (g:Nat→Option AV):List (Nat × AV)→Prop
 |[]=>True
 |(k,v)::t=>(match g k with
  |some u=>Frz m h u v
  |none=>False)∧frzSlots m h g t
def frzHeap (m:Nat) (h:Heap):Heap2→Prop
 |[]=>True
 |(i,b,_)::t=>(oblB (Nat.blt i m) (match hget h i with
  |some c=>FrzB m h c b
  |none=>False))∧frzHeap m h t
theorem frzSlots_at {m:Nat} {h:Heap} {g:Nat→Option AV}:∀ {L:List (Nat × AV)},frzSlots m h g L→∀k v,(k,v)∈L→∃u,g k=some u∧Frz m h u v
 |[],_,_,_,h=>by cases h
 | (k',v')::t,h,k,v,hm=>by
  rcases List.mem_cons.1 hm with e|hm
  ·cases e
   have h1:=h.1
   split at h1
   ·rename_i u hu;exact ⟨u,hu,h1⟩
   ·exact h1.elim
  ·exact frzSlots_at h.2 k v hm
theorem frzHeap_at {m:Nat} {h:Heap}:∀ {H2:Heap2},frzHeap m h H2→∀i b wh,(i,b,wh)∈H2→i<m∧∃b1,hget h i=some b1∧FrzB m h b1 b
 |[],_,_,_,_,h=>by cases h
 | (i',b',wh')::t,h,i,b,wh,hm=>by
  rcases List.mem_cons.1 hm with e|hm
  ·cases e
   obtain ⟨hb,h1⟩:=oblB_iff.1 h.1
   refine ⟨blt_iff.1 hb, ?_⟩
   split at h1
   ·rename_i c hc;exact ⟨c,hc,h1⟩
   ·exact h1.elim
  ·exact frzHeap_at h.2 i b wh hm
theorem Says2.trans {G:Glob} {nx0:Nat} {s s1 s2:St} (h1:Says2 G nx0 s s1) (h2:Says2 G nx0 s1 s2):Says2 G nx0 s s2:=fun w0 I0 α0 H0 D a w hα hr=>h2 w0 I0 α0 H0 D a w hα (h1 w0 I0 α0 H0 D a w hα hr)
theorem Says2.refl {G:Glob} {nx0:Nat} {s:St}:Says2 G nx0 s s:=fun _ _ _ _ _ _ _ _ h=>h
section
variable {P:Program} {G:Glob} {nx0:Nat} {s s2:St} {Q Q':AExit→St→Prop}
theorem AWp.says {c:Code} (hs:Says2 G nx0 s s2) (h:AWp P G nx0 c s2 Q):AWp P G nx0 c s Q:=
 ⟨fun w0 I0 α0 H0 D a w hα hr=>h.out w0 I0 α0 H0 D a w hα (hs w0 I0 α0 H0 D a w hα hr)⟩
theorem AWp.saysEnd {c:Code} (h:AWp P G nx0 c s Q) (hq:∀e s',Q e s'→∃s2,Says2 G nx0 s' s2∧Q' e s2):AWp P G nx0 c s Q':=
 ⟨fun w0 I0 α0 H0 D a w hα hr=>wp_mono (h.out w0 I0 α0 H0 D a w hα hr) fun _ _ _ ⟨x,s',h1,h2,h3⟩=>by
  obtain ⟨s2,k1,k2⟩:=hq x s' h3
  exact ⟨x,s2,h1,k1 w0 I0 α0 H0 D _ _ hα h2,k2⟩⟩
end
def oneL (r0:Nat) (L:LoopS):Nat→Option LoopS:=fun r=>match Nat.beq r r0 with
 |true=>some L
 |false=>none
def noCx:Caller:=fun _ _ _ _ _=>none
noncomputable def aidOf (hint:Nat→Nat→Option Hint) (ls:Nat→Option LoopS):Aid:=⟨hint,ls,noCx,noSem,noInl,noCut⟩
theorem aidOf_ok {P:Program} {O:Opts} {hint:Nat→Nat→Option Hint} {ls:Nat→Option LoopS} (h:∀f args v,O.summ f args=some v→SemCall P O.glob f args v):AidOk P O (aidOf hint ls):=⟨noCall_ok,h,fun _ _ h=>(by cases h),fun _ _ h=>(by cases h)⟩
theorem LsOk.none {P:Program} {G:Glob} {nx0:Nat} {c:Code} {hint:Nat→Nat→Option Hint}:LsOk P G nx0 (aidOf hint (fun _=>Option.none)) c:=fun r L hL=>by cases hL
theorem LsOk.one {P:Program} {G:Glob} {nx0 r0:Nat} {L0:LoopS} {c b:Code} {hint:Nat→Nat→Option Hint} (hat:loopsAt c r0=[b]) (h:∀s Q,L0 s Q→AWp P G nx0 (.loop b) s Q):LsOk P G nx0 (aidOf hint (oneL r0 L0)) c:=by
 intro r L hL x hx s Q hs
 simp only[aidOf,oneL] at hL
 split at hL
 ·rename_i hr
  have hr:=beq_iff.1 hr
  simp only[Option.some.injEq] at hL
  rw[hr,hat,List.mem_singleton] at hx
  rw[hx]
  rw[←hL] at hs
  exact h s Q hs
 ·cases hL
def manyL:List (Nat × LoopS)→Nat→Option LoopS
 |[],_=>none
 |(r,L)::t,k=>match Nat.beq k r with
  |true=>some L
  |false=>manyL t k
def manyH:List (Nat × Nat × Hint)→Nat→Nat→Option Hint
 |[],_,_=>none
 |(r,i,h)::t,k,j=>match Nat.beq k r&&Nat.beq j i with
  |true=>some h
  |false=>manyH t k j
theorem LsOk.no {P:Program} {G:Glob} {nx0:Nat} {c:Code} {A:Aid} (h:A.ls=fun _=>Option.none):LsOk P G nx0 A c:=fun r L hL=>by rw[h] at hL;cases hL
theorem manyL_mem:∀ {l:List (Nat × LoopS)} {r:Nat} {L:LoopS},manyL l r=some L→(r,L)∈l
 |[],_,_,h=>by cases h
 | (r0,L0)::t,r,L,h=>by
  simp only[manyL] at h
  split at h
  ·rename_i hr
   have hr:=beq_iff.1 hr
   simp only[Option.some.injEq] at h
   subst hr;subst h;exact List.mem_cons_self ..
  ·exact List.mem_cons_of_mem _ (manyL_mem h)
theorem LsOk.many {P:Program} {G:Glob} {nx0:Nat} {l:List (Nat × LoopS)} {c:Code} {A:Aid} (hA:A.ls=manyL l) (h:∀p∈l,∀b∈loopsAt c p.1,∀s Q,p.2 s Q→AWp P G nx0 (.loop b) s Q):LsOk P G nx0 A c:=by
 intro r L hL x hx s Q hs
 rw[hA] at hL
 exact h (r,L) (manyL_mem hL) x hx s Q hs
def fnCode (P:Program) (f:FuncId):Code:=match P.funcs[f]? with
 |some fn=>match fn.body with
  |some c=>c
  |none=> .skip
 |none=> .skip
def lpCode (P:Program) (f r:Nat):Code:=match loopsAt (fnCode P f) r with
 |b::_=>b
 |[]=> .skip
theorem fnCode_eq {P:Program} {f:FuncId} {fn:Func} {c:Code} (h1:P.funcs[f]? =some fn) (h2:fn.body=some c):c=fnCode P f:=by
 unfold fnCode;rw[h1];simp only;rw[h2]
theorem fnLs_of {P:Program} {G:Glob} {nx0:Nat} {A:Aid} {f:FuncId} (h:LsOk P G nx0 A (fnCode P f)):FnLs P G nx0 A f:=fun fn c h1 h2=>by rw[fnCode_eq h1 h2];exact h
end Go.Proofs.Abs
/- Calls that make blocks, known from a heap of their own. -/
namespace Go.Proofs.Abs
open Go
def shl (nx m:Nat):List (Nat × Nat):=(List.range m).map fun k=>(nx+k,k)
section
variable {P:Program} {G:Glob} {f:FuncId} {args:List AV} {v v2:AV} {H' H2:Heap} {m nx:Nat}
end
end Go.Proofs.Abs
/- Calls that look at rows and answer plainly, known for closed arguments. -/
namespace Go.Proofs.Abs
open Go
section
variable {P:Program} {G:Glob}
end
end Go.Proofs.Abs
/- The abstract machine, written so that the kernel runs it with less ado; it is the same machine. -/
namespace Go.Proofs.Abs
open Go
noncomputable section
def asInt (x:AV):Option (IntKind × Int):=AV.rec (motive_1:=fun _=>Option (IntKind × Int)) (motive_2:=fun _=>Unit) (fun _=>none) (fun k n=>some (k,n)) (fun _=>none) (fun _ _=>none) (none) (fun _ _ _=>none) (fun _ _=>none) (fun _ _ _=>none) (fun _ _ _ _ _=>none) (none) (none) (fun _=>none) (none) (fun _ _ _ _ _=>none) (none) (fun _ _ _=>none) (none) (fun _ _=>none) (fun _ _=>none) () (fun _ _ _ _=>()) x
def asBool (x:AV):Option Bool:=AV.rec (motive_1:=fun _=>Option Bool) (motive_2:=fun _=>Unit) (fun b=>some b) (fun _ _=>none) (fun _=>none) (fun _ _=>none) (none) (fun _ _ _=>none) (fun _ _=>none) (fun _ _ _=>none) (fun _ _ _ _ _=>none) (none) (none) (fun _=>none) (none) (fun _ _ _ _ _=>none) (none) (fun _ _ _=>none) (none) (fun _ _=>none) (fun _ _=>none) () (fun _ _ _ _=>()) x
inductive VP where
 |ptr (i o:Nat)
 |fptr (cs:List AV) (o:Nat)
 |gptr (g o:Nat)
 |oth
def asPtr (x:AV):VP:=AV.rec (motive_1:=fun _=>VP) (motive_2:=fun _=>Unit) (fun _=>VP.oth) (fun _ _=>VP.oth) (fun _=>VP.oth) (fun i o=>VP.ptr i o) (VP.oth) (fun cs o _=>VP.fptr cs o) (fun g o=>VP.gptr g o) (fun _ _ _=>VP.oth) (fun _ _ _ _ _=>VP.oth) (VP.oth) (VP.oth) (fun _=>VP.oth) (VP.oth) (fun _ _ _ _ _=>VP.oth) (VP.oth) (fun _ _ _=>VP.oth) (VP.oth) (fun _ _=>VP.oth) (fun _ _=>VP.oth) () (fun _ _ _ _=>()) x
def asTup (x:AV):Option (List AV):=AV.rec (motive_1:=fun _=>Option (List AV)) (motive_2:=fun _=>Unit) (fun _=>none) (fun _ _=>none) (fun _=>none) (fun _ _=>none) (none) (fun _ _ _=>none) (fun _ _=>none) (fun _ _ _=>none) (fun _ _ _ _ _=>none) (none) (none) (fun _=>none) (none) (fun _ _ _ _ _=>none) (none) (fun _ _ _=>none) (none) (fun _ _=>none) (fun cs _=>some cs) () (fun _ _ _ _=>()) x
inductive VS where
 |fsl (f:Bool) (es:List AV)
 |rsl (w:Bool) (i o l z:Nat)
 |oth
def asSl (x:AV):VS:=AV.rec (motive_1:=fun _=>VS) (motive_2:=fun _=>Unit) (fun _=>VS.oth) (fun _ _=>VS.oth) (fun _=>VS.oth) (fun _ _=>VS.oth) (VS.oth) (fun _ _ _=>VS.oth) (fun _ _=>VS.oth) (fun f es _=>VS.fsl f es) (fun w i o l z=>VS.rsl w i o l z) (VS.oth) (VS.oth) (fun _=>VS.oth) (VS.oth) (fun _ _ _ _ _=>VS.oth) (VS.oth) (fun _ _ _=>VS.oth) (VS.oth) (fun _ _=>VS.oth) (fun _ _=>VS.oth) () (fun _ _ _ _=>()) x
def cellsF (x:AV):List AV:=AV.rec (motive_1:=fun _=>List AV) (motive_2:=fun _=>Unit) (fun b=>[.bool b]) (fun k n=>[.int k n]) (fun s=>[.str s]) (fun i o=>[.ptr i o]) ([.nilp]) (fun cs o _=>[.fptr cs o]) (fun g o=>[.gptr g o]) (fun f es _=>[.fsl f es]) (fun w i o l z=>[.rsl w i o l z]) ([.nilsl]) ([.nesl]) (fun i=>[.map i]) ([.nilmap]) (fun fn a c _ _=>[.func fn a c]) ([.nilFunc]) (fun t v _=>[.iface t v]) ([.nilIface]) (fun cs _=>cs) (fun cs _=>[.tuple cs]) () (fun _ _ _ _=>()) x
def oneF (x:AV):Bool:=AV.rec (motive_1:=fun _=>Bool) (motive_2:=fun _=>Unit) (fun _=>true) (fun _ _=>true) (fun _=>true) (fun _ _=>true) (true) (fun _ _ _=>true) (fun _ _=>true) (fun _ _ _=>true) (fun _ _ _ _ _=>true) (true) (true) (fun _=>true) (true) (fun _ _ _ _ _=>true) (true) (fun _ _ _=>true) (true) (fun _ _=>false) (fun _ _=>false) () (fun _ _ _ _=>()) x
def allOneF (l:List AV):Bool:=List.rec true (fun a _ ih=>oneF a&&ih) l
theorem asInt_some {x:AV} {p:IntKind × Int} (h:asInt x=some p):x= .int p.1 p.2:=by cases x<;>simp[asInt] at h<;>(subst h;rfl)
theorem cellsF_eq:cellsF=AV.cells:=by funext x;cases x<;>rfl
theorem oneF_eq:oneF=AV.one:=by funext x;cases x<;>rfl
theorem allOneF_eq:allOneF=allOne:=by
 funext l
 induction l with
 |nil=>rfl
 |cons a t ih=>show (oneF a&&allOneF t)=_;rw[ih,oneF_eq];rfl
def intBin:BinOp→IntKind→Int→Int→Option (Option AV)
 | .add=>fun k a b=>some (some (.int k (wrapA k (a+b))))
 | .sub=>fun k a b=>some (some (.int k (wrapA k (a-b))))
 | .mul=>fun k a b=>some (some (.int k (wrapA k (a*b))))
 | .eql=>fun _ a b=>some (some (.bool (beqInt a b)))
 | .neq=>fun _ a b=>some (some (.bool (!beqInt a b)))
 | .lss=>fun _ a b=>some (some (.bool (ltInt a b)))
 | .leq=>fun _ a b=>some (some (.bool (!ltInt b a)))
 | .gtr=>fun _ a b=>some (some (.bool (ltInt b a)))
 | .geq=>fun _ a b=>some (some (.bool (!ltInt a b)))
 |_=>fun _ _ _=>none
def sameK (k k':IntKind):Bool:=decide (k=k')
section
variable (P:Program)
def binF (op:BinOp) (t:TypeId) (xo yo:Operand) (x y:AV):Option AV:=
 match asInt x with
 | some p=>match asInt y with
  | some q=>match sameK p.1 q.1 with
   |true=>match intBin op p.1 p.2 q.2 with
    |some r=>r
    |none=>binA P op t xo yo x y
   |false=>binA P op t xo yo x y
  |none=>binA P op t xo yo x y
 |none=>binA P op t xo yo x y
theorem binF_eq:binF P=binA P:=by
 funext op t xo yo x y
 unfold binF
 split
 ·rename_i p hx
  split
  ·rename_i q hy
   split
   ·rename_i hk
    have hk:p.1=q.1:=of_decide_eq_true hk
    split
    ·rename_i r hr
     rw[asInt_some hx,asInt_some hy]
     rw[←hk]
     unfold intBin at hr
     split at hr<;>simp only[Option.some.injEq] at hr<;>first|(subst hr;simp[binA];done)|(cases hr;done)
    ·rfl
   ·rfl
  ·rfl
 ·rfl
def loadF (t:TypeId) (glob:Nat→Option (List AV)) (a:AV):Option Eff:=
 match asPtr a with
 | .ptr id off=>some<| .read id fun
  | .cells l=>(partA P t l off).map .val
  |_=>none
 | .fptr cs off=>(partA P t cs off).map .val
 | .gptr g off=>match glob g with
  |some l=>(partA P t l off).map .val
  |none=>none
 | .oth=>none
theorem loadF_eq (t:TypeId) (glob:Nat→Option (List AV)) (a:AV):loadF P t glob a=loadA P t a glob:=by cases a<;>rfl
def storeF (t:TypeId) (a v:AV):Option Eff:=
 match asPtr a with
 | .ptr id off=>match sizeA P t with
  |some n=>match Nat.beq (lenN (cellsF v)) n&&allOneF (cellsF v) with
   | true=>some<| .upd id fun
     | .cells l=>(splice l off (cellsF v)).map fun l'=>(.cells l',undefA)
     |_=>none
   |false=>none
  |none=>none
 |_=>none
theorem storeF_eq (t:TypeId) (a v:AV):storeF P t a v=storeA P t a v:=by
 unfold storeF
 rw[cellsF_eq,allOneF_eq]
 cases a<;>first|rfl|skip
 rename_i id off
 show (match sizeA P t with
  |some n=>(match Nat.beq (lenN v.cells) n&&allOne v.cells with
   | true=>some<|Eff.upd id fun
     | .cells l=>(splice l off v.cells).map fun l'=>(Blk.cells l',undefA)
     |_=>none
   |false=>none)
  |none=>none)=_
 unfold storeA
 simp only
 cases sizeA P t with
 |none=>rfl
 |some n=>
  simp only
  cases Nat.beq (lenN v.cells) n&&allOne v.cells<;>rfl
def nilF (a:AV):Option AV:=match asPtr a with
 | .ptr i o=>some (.ptr i o)
 | .fptr c o=>some (.fptr c o)
 | .gptr g o=>some (.gptr g o)
 | .oth=>nilCheckA a
theorem nilF_eq (a:AV):nilF a=nilCheckA a:=by cases a<;>rfl
def fieldAddrF (t:TypeId) (x:AV) (f:Nat):Option AV:=
 match fieldOf P t f with
 | some fd=>match sizeA P fd.type with
  |some (_+1)=>match asPtr x with
   | .ptr id off=>some (.ptr id (off+fd.offset))
   | .fptr cs off=>some (.fptr cs (off+fd.offset))
   | .gptr g off=>some (.gptr g (off+fd.offset))
   | .oth=>none
  |_=>none
 |none=>none
theorem fieldAddrF_eq (t:TypeId) (x:AV) (f:Nat):fieldAddrF P t x f=fieldAddrA P t x f:=by
 unfold fieldAddrF fieldAddrA
 cases fieldOf P t f with
 |none=>rfl
 | some fd=>
  simp only
  cases sizeA P fd.type with
  |none=>rfl
  |some n=>
   cases n with
   |zero=>rfl
   |succ n=>cases x<;>rfl
def natF (a:AV):Option Nat:=match asInt a with
 |some p=>Int.rec (fun n=>some n) (fun _=>none) p.2
 |none=>none
theorem natF_eq (a:AV):natF a=natOf a:=by
 cases a<;>try rfl
 rename_i k n
 cases n<;>rfl
def indexAddrF (t:TypeId) (x i:AV):Option AV:=
 match elemOfA P t,asSl x,natF i with
 | some e,.rsl _ id off len sz',some i=>match sizeA P e with
  |some sz=>match Nat.blt i len&&Nat.beq sz sz' with
   |true=>some (.ptr id (off+i*sz))
   |false=>none
  |none=>none
 |_,_,_=>indexAddrA P t x i
theorem indexAddrF_eq (t:TypeId) (x i:AV):indexAddrF P t x i=indexAddrA P t x i:=by
 unfold indexAddrF
 split
 ·rename_i e w id off len sz' k he hx hi
  rw[natF_eq] at hi
  have hu:P.underlying t=some (.slice e):=by
   unfold elemOfA at he
   split at he
   ·simp only[Option.some.injEq] at he;subst he;assumption
   ·cases he
  have hx:x= .rsl w id off len sz':=by cases x<;>simp[asSl] at hx<;>simp[hx]
  subst hx
  simp only[indexAddrA,hi,hu,Option.bind_eq_bind,Option.bind_some]
  split
  ·rename_i sz hs
   simp only[hs,Option.bind_some]
   split
   ·rename_i h;simp only[h,if_true]
   ·rename_i h;simp only[h,Bool.false_eq_true,if_false]
  ·rename_i hs
   simp only[hs,Option.bind_none]
 ·rfl
def extractF (v:Option AV) (i:Nat):Option Eff:=
 match v with
 |some a=>match asTup a with
  |some vs=>valO (getN vs i)
  |none=>none
 |none=>none
def convF (s d:TypeId) (x:AV):Option Eff:=
 match asInt x with
 |some p=>match P.underlying s,P.underlying d with
  |some _,some (.int k)=>some (.val (.int k (wrapA k p.2)))
  |_,_=>convA P s d x
 |none=>convA P s d x
theorem convF_eq (s d:TypeId) (x:AV):convF P s d x=convA P s d x:=by
 unfold convF
 split
 ·rename_i p hx
  split
  ·rename_i k h1 h2
   rw[asInt_some hx]
   unfold convA
   simp only[h1,h2]
  ·rfl
 ·rfl
def lenF (argTypes:Array TypeId) (x:AV):Option Eff:=
 match argTypes[0]?,asSl x with
 |some t,.rsl _ _ _ n _=>match elemOfA P t with
  |some _=>some (.val (.int .i64 (.ofNat n)))
  |none=>lenA P argTypes x
 |some t,.fsl _ es=>match elemOfA P t with
  |some _=>some (.val (.int .i64 (.ofNat (lenN es))))
  |none=>lenA P argTypes x
 |_,_=>lenA P argTypes x
theorem lenF_eq (argTypes:Array TypeId) (x:AV):lenF P argTypes x=lenA P argTypes x:=by
 have he:∀ {t e},elemOfA P t=some e→P.underlying t=some (.slice e):=fun {t e} he=>by
  unfold elemOfA at he
  split at he
  ·simp only[Option.some.injEq] at he;subst he;assumption
  ·cases he
 unfold lenF
 split
 ·rename_i t w i o n z ht hx
  split
  ·rename_i e h
   have hx:x= .rsl w i o n z:=by cases x<;>simp[asSl] at hx<;>simp[hx]
   subst hx
   simp only[lenA,ht,he h]
  ·rfl
 ·rename_i t f es ht hx
  split
  ·rename_i e h
   have hx:x= .fsl f es:=by cases x<;>simp[asSl] at hx<;>simp[hx]
   subst hx
   simp only[lenA,ht,he h]
  ·rfl
 ·rfl
def eCallF (glob:Nat→Option (List AV)) (ev:Operand→Option AV) (c:Call):Option Eff:=
 match c.callee with
 | .builtin .len=>match mapOp ev c.args.toList with
  |some [x]=>lenF P c.argTypes x
  |_=>eCall P glob ev c
 |_=>eCall P glob ev c
theorem eCallF_eq (glob:Nat→Option (List AV)) (ev:Operand→Option AV) (c:Call):eCallF P glob ev c=eCall P glob ev c:=by
 unfold eCallF
 split
 ·rename_i hc
  split
  ·rename_i x hx
   simp only[eCall,hx,hc,builtinA,lenF_eq]
  ·rfl
 ·rfl
end
def dispF (o:Op):Program→(Nat→Option (List AV))→(Operand→Option AV)→Option (Option Eff):=
 Op.rec (motive:=fun _=>Program→(Nat→Option (List AV))→(Operand→Option AV)→Option (Option Eff))
  (fun x _ _ ev=>some (valO (ev x))) (fun x _ _ ev=>some (valO (ev x))) (fun _ _ _ _ _ _=>none) (fun _ _ _ _=>none) (fun _ _ _ _ _=>none) (fun _ _ _ _ _=>none) (fun _ _ _ _ _ _=>none) (fun _ _ _ _ _ _ _=>none) (fun t a P glob ev=>some (e1 ev a fun a=>loadF P t glob a)) (fun t a x P _ ev=>some (e2 ev a x (storeF P t))) (fun _ _ _ _=>none) (fun _ _ _ _=>none) (fun x _ _ ev=>some (e1 ev x fun v=>valO (nilF v))) (fun op t x y _ P _ ev=>some (e2 ev x y fun v w=>valO (binF P op t x y v w))) (fun _ _ _ _ _ _=>none) (fun s d x P _ ev=>some (e1 ev x (convF P s d))) (fun _ _ _ _ _=>none) (fun _ _ _ _ _=>none) (fun _ _ _ _ _ _=>none) (fun _ _ _ _ _=>none) (fun _ _ _ _ _=>none) (fun _ _ _ _ _ _=>none) (fun _ _ _ _ _ _ _ _=>none) (fun t x f P _ ev=>some (e1 ev x fun v=>valO (fieldAddrF P t v f))) (fun _ _ _ _ _ _=>none) (fun t x i P _ ev=>some (e2 ev x i fun v w=>valO (indexAddrF P t v w))) (fun _ _ _ _ _ _=>none) (fun _ _ _ _ _ _ _=>none) (fun _ _ _ _ _ _ _=>none) (fun _ _ _ _ _ _=>none) (fun _ _ _ _ _ _ _=>none) (fun _ _ _ _ _=>none) (fun _ _ _ _ _=>none) (fun _ _ _ _=>none) (fun _ _ _ _ _ _ _=>none) (fun t i _ _ ev=>some (extractF (ev t) i)) (fun c P glob ev=>some (eCallF P glob ev c)) (fun _ _ _ _=>none) (fun _ _ _ _=>none) (fun _ _ _ _=>none) (fun _ _ _ _ _=>none) (fun _ _ _ _ _ _=>none) (fun _ _ _ _ _=>none) o
def effF (P:Program) (glob:Nat→Option (List AV)) (ev:Operand→Option AV) (o:Oper):Option Eff:=match dispF o.op P glob ev with
 |some r=>r
 |none=>effA P glob ev o
theorem effF_eq (P:Program) (glob:Nat→Option (List AV)) (ev:Operand→Option AV) (o:Oper):effF P glob ev o=effA P glob ev o:=by
  unfold effF
  split
  · rename_i r hr
    cases ho:o.op<;>rw[ho] at hr<;>simp only[dispF,Option.some.injEq,reduceCtorEq] at hr<;>(subst hr;simp only[effA,ho,binF_eq,loadF_eq,nilF_eq,fieldAddrF_eq,indexAddrF_eq,eCallF_eq])<;>first
      |rfl
      | (unfold extractF eExtract;rename_i t i;cases ev t with
         |none=>rfl
         |some a=>cases a<;>rfl)
      |(congr 1;funext a b;exact storeF_eq P _ a b)
      |(congr 1;funext a;exact convF_eq P _ _ a)
  · rfl
def isBS (o:Op):Bool:=Op.rec (motive:=fun _=>Bool) (fun _=>false) (fun _=>false) (fun _ _ _=>false) (fun _=>false) (fun _ _=>false) (fun _ _=>false) (fun _ _ _=>true) (fun _ _ _ _=>false) (fun _ _=>false) (fun _ _ _=>false) (fun _=>false) (fun _=>false) (fun _=>false) (fun _ _ _ _ _=>false) (fun _ _ _=>false) (fun _ _ _=>false) (fun _ _=>false) (fun _ _=>false) (fun _ _ _=>false) (fun _ _=>false) (fun _ _=>false) (fun _ _ _=>false) (fun _ _ _ _ _=>false) (fun _ _ _=>false) (fun _ _ _=>false) (fun _ _ _=>false) (fun _ _ _=>false) (fun _ _ _ _=>false) (fun _ _ _ _=>false) (fun _ _ _=>false) (fun _ _ _ _=>false) (fun _ _=>false) (fun _ _=>false) (fun _=>false) (fun _ _ _ _=>false) (fun _ _=>false) (fun _=>false) (fun _=>false) (fun _=>false) (fun _=>false) (fun _ _=>false) (fun _ _ _=>false) (fun _ _=>false) o
def effBF (P:Program) (glob:Nat→Option (List AV)) (ops:List Oper) (ev:Operand→Option AV) (o:Oper):Option Eff:=match isBS o.op with
 |true=>effB P glob ops ev o
 |false=>effF P glob ev o
theorem effBF_eq (P:Program) (glob:Nat→Option (List AV)) (ops:List Oper) (ev:Operand→Option AV) (o:Oper):effBF P glob ops ev o=effB P glob ops ev o:=by
 unfold effBF
 split
 ·rfl
 ·rename_i h
  rw[effF_eq,effB_of]
  cases ho:o.op<;>first|rfl|(rw[ho] at h;cases h)
def asVal (e:Eff):Option AV:=match e with
 | .val v=>some v
 |_=>none
theorem asVal_some {e:Eff} {v:AV} (h:asVal e=some v):e= .val v:=by cases e<;>simp[asVal] at h<;>(subst h;rfl)
def runEffQ (call:Caller) (id:Nat) (e:Eff) (h:Heap) (nx:Nat):Option (AV × Heap × Nat × Foot):=match asVal e with
 |some v=>some (v,h,nx,⟨false,[],[]⟩)
 |none=>runEff call id 2 e h nx
theorem runEffQ_eq (call:Caller) (id:Nat) (e:Eff) (h:Heap) (nx:Nat):runEffQ call id e h nx=runEff call id 2 e h nx:=by
 unfold runEffQ
 split
 ·rename_i v hv;rw[asVal_some hv];rfl
 ·rfl
section
variable (P:Program) (glob:Nat→Option (List AV)) (call:Caller)
def stepQ (ops:List Oper) (id:Nat) (o:Oper) (s:St):Option (St × Foot):=
 match wantedA ops o s.slots with
 | some true=>match effBF P glob ops (evA s.slots) o with
  |some e=>match runEffQ call id e s.heap s.nx with
   |some (v,h,nx,ft)=>some (⟨putA s.n s.slots o.dst v,h,nx,s.n⟩,ft)
   |none=>none
  |none=>none
 |some false=>some (⟨putA s.n s.slots o.dst undefA,s.heap,s.nx,s.n⟩,⟨false,[],[]⟩)
 |none=>none
theorem stepQ_eq (ops:List Oper) (id:Nat) (o:Oper) (s:St):stepQ P glob call ops id o s=stepA P glob call ops id o s:=by
 unfold stepQ stepA
 simp only[effBF_eq,runEffQ_eq]
 rfl
def runOpsQ (all:List Oper) (base:Nat):List Oper→Nat→St→List (Nat × Foot)→Option (St × List (Nat × Foot))
 |[],_,s,acc=>some (s,acc)
 |o::rest,i,s,acc=>match stepQ P glob call all (base+i) o s with
  |some (s',ft)=>runOpsQ all base rest (i+1) s' (match ft.none with|true=>acc|false=>(i,ft)::acc)
  |none=>none
theorem runOpsQ_eq (all:List Oper) (base:Nat):∀ (l:List Oper) (i:Nat) (s:St) (acc:List (Nat × Foot)),runOpsQ P glob call all base l i s acc=runOps P glob call all base l i s acc
 |[],_,_,_=>rfl
 |o::rest,i,s,acc=>by
  simp only[runOpsQ,runOps,stepQ_eq]
  split
  ·rename_i s' ft h;simp only[h];exact runOpsQ_eq all base rest (i+1) s' _
  ·rename_i h;simp only[h]
def condQ (v:Option AV):Option Bool:=match v with
 |some a=>asBool a
 |none=>none
def execQ (lf:Nat):Code→St→Option (AExit × St)
 | .skip,s| .label _,s=>some (.normal,s)
 | .region _ ops draw,s=>
  match runOpsQ P glob call ops.toList s.nx ops.toList 0 ⟨s.slots,s.heap,s.nx+lenN ops.toList,s.n⟩ [] with
  | some (s',feet)=>match draw with
   |false=>some (.normal,s')
   |true=>match regionOk ops.toList&&feetOk (befs ops.toList []) feet with
    |true=>some (.normal,s')
    |false=>none
  |none=>none
 | .seq a b,s=>match execQ lf a s with
  |some (.normal,s')=>execQ lf b s'
  |r=>r
 | .cond c a b,s=>match condQ (evA s.slots c) with
  |some true=>execQ lf a s
  |some false=>execQ lf b s
  |_=>none
 | .block id body,s=>match execQ lf body s with
  |some (.exit i,s')=>match Nat.beq i id with
   |true=>some (.normal,s')
   |false=>some (.exit i,s')
  |r=>r
 | .loop body,s=>loopA (execQ lf body) lf s
 | .exit id,s=>some (.exit id,s)
 | .ret,s=>some (.ret,s)
 |_,_=>none
theorem execQ_eq (lf:Nat) (c:Code):execQ P glob call lf c=execA P glob call lf c:=by
 induction c with
 |region id ops draw=>funext s;simp only[execQ,execA,runOpsQ_eq];rfl
 |seq a b iha ihb=>funext s;simp only[execQ,execA,iha,ihb];rfl
 | cond c a b iha ihb=>
  funext s
  simp only[execQ,execA,iha,ihb]
  cases evA s.slots c with
  |none=>rfl
  |some v=>
   cases v<;>first|rfl|skip
   rename_i b;cases b<;>rfl
 |block id body ih=>funext s;simp only[execQ,execA,ih];rfl
 |loop body ih=>funext s;simp only[execQ,execA,ih]
 |_=>rfl
end
def runBodyQ (P:Program) (O:Opts) (call:Caller) (f:FuncId) (args:List AV) (h:Heap) (nx:Nat):Option (AV × Heap × Nat):=
  match P.funcs[f]? with
  | some fn=>match fn.body with
    | some c=>match fn.name== "runtime.NumGoroutine" with
      |true=>none
      | false=>match Nat.ble (lenN args) fn.ntmps&&Nat.ble fn.ntmps 4095 with
       |false=>none
       |true=>match execQ P O.glob call O.lf c ⟨argsT args 0 .tip,h,nx,fn.ntmps⟩ with
        | some (.normal,s)|some (.ret,s)=>match resA P O.glob s fn.results.toList with
          |some l=>some (tupA l,s.heap,s.nx)
          |none=>none
        |_=>none
    |none=>none
  |none=>none
theorem runBodyQ_eq (P:Program) (O:Opts) (call:Caller) (f:FuncId) (args:List AV) (h:Heap) (nx:Nat):runBodyQ P O call f args h nx=runBody P O call f args h nx:=by
 unfold runBodyQ runBody
 simp only[execQ_eq]
 rfl
def callLookQ (P:Program) (O:Opts) (call:Caller) (d:Nat) (f:FuncId) (args:List AV) (id:Nat) (h:Heap) (nx:Nat):Option (AV × Heap × Nat × Foot):=
 match runBodyQ P O call f args (cutH h (lookSet h d (idsAll args []))) nx with
 |some (v,h1,_)=>match lookEnd (lookSet h d (idsAll args [])) id nx h v h1 with
  |some r=>some (lookFin (lookSet h d (idsAll args [])) id nx h r)
  |none=>none
 |none=>none
def callPartQ (P:Program) (O:Opts) (call:Caller) (d:Nat) (f:FuncId) (args:List AV) (h:Heap) (nx:Nat):Option (AV × Heap × Nat × Foot):=
  match runBodyQ P O call f args (cutH h (lookSet h d (idsAll args []))) nx with
  |some (v,h1,nx')=>match Nat.ble nx nx' with
   |false=>none
   |true=>some (v,Mods.app (catM (oldM h1 (lookSet h d (idsAll args []))) (newM nx h1 h1)) h,nx',⟨true,lookSet h d (idsAll args []),nx::lookSet h d (idsAll args [])⟩)
  |none=>none
def callQ (P:Program) (O:Opts):Nat→Caller
 |0,_,_,_,_,_=>none
 | n +1,f,args,id,h,nx=>
  match O.how f,closedAll args with
  | .look d,_=>callLookQ P O (callQ P O n) d f args id h nx
  | .each d,_=>callEach P O (callQ P O n) d f args id h nx
  | .clone,_=>callClone P f args id h nx
  | .part d,_=>callPartQ P O (callQ P O n) d f args h nx
  | .cmp,_=>callCmp P f args h nx
  | .known,_=>O.cx f args id h nx
  | .pure,true=>match O.summ f args with
   |some v=>some (v,h,nx,⟨false,[],[]⟩)
   | none=>match runBodyQ P O (callQ P O n) f args [] 0 with
    | some (v,h',_)=>match freezeA 0 h' 40 v with
     |some v'=>match closedA v' with
      |true=>some (v',h,nx,⟨false,[],[]⟩)
      |false=>none
     |none=>none
    |none=>none
  | .fresh,true=>match runBodyQ P O (callQ P O n) f args [] 0 with
   |some (v,h',_)=>importA h' v id h nx
   |none=>none
  | .pure,false=>match runBodyQ P O (callQ P O n) f args h nx with
   |some (v,h',nx')=>match freezeA nx h' 40 v with
    |some v'=>some (v',hbelow nx h',nx',⟨true,[],[]⟩)
    |none=>none
   |none=>none
  |_,_=>match runBodyQ P O (callQ P O n) f args h nx with
   |some (v,h',nx')=>some (v,h',nx',⟨true,[],[]⟩)
   |none=>none
theorem callQ_eq (P:Program) (O:Opts):∀n,callQ P O n=callN P O n
 |0=>rfl
 |n+1=>by
  funext f args id h nx
  simp only[callQ,callN,callQ_eq P O n,runBodyQ_eq,callLookQ,callPartQ,callLook,callPart]
  rfl
theorem runQ_eq (P:Program) (O:Opts) (n:Nat) (f:FuncId) (args:List AV) (h:Heap) (nx:Nat):runBodyQ P O (callQ P O n) f args h nx=runBody P O (callN P O n) f args h nx:=by
 rw[runBodyQ_eq,callQ_eq]
end
end Go.Proofs.Abs
/- A law whose answer is known: the call. -/
namespace Go.Proofs.Abs
open Go
theorem SemCall.calls {P:Program} {G:Glob} {f:FuncId} {fn:Func} {c:Code} {args:List AV} {vs:Array Value} {w:World} (hfn:P.funcs[f]? =some fn) (hc:fn.body=some c) (hname:(fn.name== "runtime.NumGoroutine")=false)
  (h:SemCall P G f args (.bool true)) (hr:Rel G w (fun b=>b<w.heap.size) (fun _=>none) []) (ha:RepL w (fun b=>b<w.heap.size) (fun _=>none) args vs.toList):
  Calls P f vs w fun e w'=>e= .returned (.bool true)∧RowKit.Below w.heap.size w w':=by
 have e1:(callFunc f vs).run P w= .ok (.enter f vs) w:=by
  unfold callFunc
  simp only[Sem.run_bind,run_program,Result.andThen_ok,hfn,hname,hc,Bool.false_eq_true,if_false,Option.isNone_some,Sem.run_pure]
 have:=h.out w _ _ [] 0 1 vs hr ha rfl (by omega) (fun _ _=>rfl)
 rw[e1] at this
 refine Calls.mono this ?_
 rintro e w' ⟨v,rfl,⟨⟨I',α',ev,_,hv,_⟩,_⟩⟩
 cases hv
 exact ⟨rfl,ev.os.1,ev.os.2.1,ev.os.2.2,ev.size,fun k hk=>ev.frame k hk not_owned_nil⟩
end Go.Proofs.Abs
/- A run in continuation form leads to one end: so calls may be followed where they stand. -/
namespace Go.Proofs.Abs
open Go
def Pt4 (F:(AV→Heap→Nat→Foot→Prop)→Prop):Prop:=∀K,F K→∃v h nx ft,K v h nx ft∧∀K',K' v h nx ft→F K'
def Pt3 (F:(AV→Heap→Nat→Prop)→Prop):Prop:=∀K,F K→∃v h nx,K v h nx∧∀K',K' v h nx→F K'
def PtS (F:(Kn→St→Foot→Prop)→Prop):Prop:=∀K,F K→∃kn s ft,K kn s ft∧∀K',K' kn s ft→F K'
def PtF (F:(St→List (Nat × Foot)→Prop)→Prop):Prop:=∀K,F K→∃s ft,K s ft∧∀K',K' s ft→F K'
def PtE (F:(AExit→St→Prop)→Prop):Prop:=∀Q,F Q→∃e s,Q e s∧∀Q',Q' e s→F Q'
section
variable {P:Program} {O:Opts} {n:Nat} {A:Aid}
theorem plainK_pt {id d:Nat} {e:Eff} {h:Heap} {nx:Nat}:Pt4 (plainK P O n id d e h nx):=by
 intro K hk
 unfold plainK at hk⊢
 split at hk
 ·rename_i v h' nx' ft hr
  refine ⟨v,h',nx',ft,hk,fun K' h=> ?_⟩
  exact h
 ·exact hk.elim
def InlPt (A:Aid):Prop:=∀f T,A.inl f=some T→∀args h nx,Pt3 (T.run args h nx)
theorem semK_pt {f:FuncId} {args:List AV} {h:Heap} {nx:Nat} (r:SemR):Pt4 (fun K=>semK P O f args h nx K r):=by
 intro K hk
 cases r with
 |val v=>exact ⟨v,h,nx,_,hk.2,fun K' h=>⟨hk.1,h⟩⟩
 |part L v H2 m=>exact ⟨v,_,_,_,hk.2,fun K' h=>⟨hk.1,h⟩⟩
theorem inlK_pt {args:List AV} {h:Heap} {nx:Nat} {T:Inl} (hT:∀args h nx,Pt3 (T.run args h nx)):Pt4 (fun K=>inlK args h nx K T):=by
 intro K hk
 obtain ⟨v,H2,nx2,h1,h2⟩:=hT _ _ _ _ hk
 obtain ⟨hle,h1⟩:=oblB_iff.1 h1
 exact ⟨v,_,_,_,h1,fun K' h=>h2 _ (oblB_iff.2 ⟨hle,h⟩)⟩
theorem callK_pt (hi:InlPt A) {id d:Nat} {f:FuncId} {args:List AV} {h:Heap} {nx:Nat}:Pt4 (fun K=>match A.cx f args id h nx with
      |some (v,h',nx',ft)=>K v h' nx' ft
      | none=>match A.sem f args h nx with
       |some r=>semK P O f args h nx K r
       | none=>match A.inl f with
        |some T=>inlK args h nx K T
        |none=>match O.how f with
         | .pure=>match O.summ f args with
           |some v=>oblB (closedAll args) (K v h nx ⟨false,[],[]⟩)
           |none=>plainK P O n id d (.call f args) h nx K
         |_=>plainK P O n id d (.call f args) h nx K):=by
  intro K hk
  simp only at hk⊢
  split at hk
  · rename_i v h' nx' ft hc
    exact ⟨v,h',nx',ft,hk,fun K' h=>by first|(rw[hc];exact h)|exact h⟩
  · rename_i hc
    split at hk
    · rename_i r hr
      obtain ⟨v,h',nx',ft,h1,h2⟩:=semK_pt r K hk
      exact ⟨v,h',nx',ft,h1,fun K' h=>by first|exact h2 K' h|(rw[hc,hr];exact h2 K' h)⟩
    · rename_i hr
      split at hk
      · rename_i T hT
        obtain ⟨v,h',nx',ft,h1,h2⟩:=inlK_pt (hi f T hT) K hk
        exact ⟨v,h',nx',ft,h1,fun K' h=>by first|exact h2 K' h|(rw[hc,hr,hT];exact h2 K' h)⟩
      · rename_i hT
        split at hk
        · rename_i ho
          split at hk
          · rename_i v hs
            obtain ⟨hb,hk⟩:=oblB_iff.1 hk
            exact ⟨v,h,nx,_,hk,fun K' h=>by first|exact oblB_iff.2 ⟨hb,h⟩|(rw[hc,hr,hT,ho,hs];exact oblB_iff.2 ⟨hb,h⟩)⟩
          · rename_i hs
            obtain ⟨v,h',nx',ft,h1,h2⟩:=plainK_pt K hk
            exact ⟨v,h',nx',ft,h1,fun K' h=>by first|exact h2 K' h|(rw[hc,hr,hT,ho,hs];exact h2 K' h)⟩
        · obtain ⟨v,h',nx',ft,h1,h2⟩:=plainK_pt K hk
          exact ⟨v,h',nx',ft,h1,fun K' h=>h2 K' h⟩
theorem effK_pt (hi:InlPt A) {id:Nat}:∀ (d:Nat) (e:Eff) {h:Heap} {nx:Nat},Pt4 (effK P O n A id d e h nx):=by
 intro d
 induction d with
 | zero=>
  intro e h nx K hk
  unfold effK at hk
  split at hk
  ·obtain ⟨v,h',nx',ft,h1,h2⟩:=callK_pt hi K hk
   exact ⟨v,h',nx',ft,h1,fun K' h=>by unfold effK;exact h2 K' h⟩
  ·rename_i hne
   obtain ⟨v,h',nx',ft,h1,h2⟩:=plainK_pt K hk
   refine ⟨v,h',nx',ft,h1,fun K' h=> ?_⟩
   unfold effK
   split
   ·exact absurd rfl (hne _ _)
   ·exact h2 K' h
 | succ d ih=>
  intro e h nx K hk
  unfold effK at hk
  split at hk
  ·obtain ⟨v,h',nx',ft,h1,h2⟩:=callK_pt hi K hk
   exact ⟨v,h',nx',ft,h1,fun K' h=>by unfold effK;exact h2 K' h⟩
  ·rename_i i k
   split at hk
   ·rename_i b hb
    split at hk
    ·rename_i e' he
     obtain ⟨v,h',nx',ft,h1,h2⟩:=ih e' _ hk
     exact ⟨v,h',nx',_,h1,fun K' h=>by unfold effK;simp only[hb,he];exact h2 _ h⟩
    ·exact hk.elim
   ·exact hk.elim
  ·rename_i hne hnr
   obtain ⟨v,h',nx',ft,h1,h2⟩:=plainK_pt K hk
   refine ⟨v,h',nx',ft,h1,fun K' h=> ?_⟩
   unfold effK
   split
   ·exact absurd rfl (hne _ _)
   ·exact absurd rfl (hnr _ _)
   ·exact h2 K' h
theorem esK_pt (hi:InlPt A) {id:Nat} {h:Heap} {nx:Nat} (oe:Option ES):Pt4 (fun K=>esK P O n A id h nx K oe):=by
 intro K hk
 cases oe with
 |none=>exact hk.elim
 | some es=>cases es with
  |eff e=>exact effK_pt hi 2 e K hk
  |obl b e=>
   obtain ⟨hb,hk⟩:=oblB_iff.1 hk
   obtain ⟨v,h',nx',ft,h1,h2⟩:=effK_pt hi 2 e K hk
   exact ⟨v,h',nx',ft,h1,fun K' h=>oblB_iff.2 ⟨hb,h2 K' h⟩⟩
  | app b i k v=>
   obtain ⟨hb,hk⟩:=oblB_iff.1 hk
   split at hk
   ·rename_i l hl
    obtain ⟨hq,hk⟩:=oblB_iff.1 hk
    refine ⟨_,_,_,_,hk,fun K' h=>oblB_iff.2 ⟨hb, ?_⟩⟩
    simp only[hl]
    exact oblB_iff.2 ⟨hq,h⟩
   ·exact hk.elim
  | put b i k v=>
   obtain ⟨hb,hk⟩:=oblB_iff.1 hk
   split at hk
   ·rename_i l hl
    obtain ⟨hq,hk⟩:=oblB_iff.1 hk
    refine ⟨_,_,_,_,hk,fun K' h=>oblB_iff.2 ⟨hb, ?_⟩⟩
    simp only[hl]
    exact oblB_iff.2 ⟨hq,h⟩
   ·exact hk.elim
  | pick b x y=>
   cases b with
   |true=>cases x with
    |none=>exact hk.elim
    |some v=>exact ⟨v,h,nx,_,hk,fun K' h=>h⟩
   |false=>cases y with
    |none=>exact hk.elim
    |some v=>exact ⟨v,h,nx,_,hk,fun K' h=>h⟩
theorem hintK_pt (hi:InlPt A) {ops:List Oper} {id:Nat} {o:Oper} {s:St} (a:Hint):Pt4 (fun K=>hintK P O n A ops id o s K a):=by
 intro K hk
 cases a with
 | plain=>
  simp only[hintK] at hk⊢
  split at hk
  ·rename_i e he
   exact effK_pt hi 2 e K hk
  ·exact hk.elim
 |ans a=>
  simp only[hintK] at hk⊢
  split at hk
  ·exact ⟨_,_,_,_,hk.2,fun K' h=>⟨hk.1,h⟩⟩
  ·exact hk.elim
 | el v=>
  simp only[hintK] at hk⊢
  split at hk
  ·split at hk
   ·split at hk
    ·split at hk
     ·obtain ⟨hg,hk⟩:=hk
      obtain ⟨hb,hk⟩:=oblB_iff.1 hk
      exact ⟨_,_,_,_,hk,fun K' h=>⟨hg,oblB_iff.2 ⟨hb,h⟩⟩⟩
     ·exact hk.elim
    ·exact hk.elim
   ·exact hk.elim
  ·exact hk.elim
 | ld v=>
  simp only[hintK] at hk⊢
  split at hk
  ·split at hk
   ·split at hk
    ·exact ⟨_,_,_,_,hk.2,fun K' h=>⟨hk.1,h⟩⟩
    ·exact hk.elim
   ·exact ⟨_,_,_,_,hk.2,fun K' h=>⟨hk.1,h⟩⟩
   ·exact ⟨_,_,_,_,hk.2,fun K' h=>⟨hk.1,h⟩⟩
   ·exact hk.elim
  ·exact hk.elim
 |res r=>
  simp only[hintK] at hk⊢
  split at hk
  ·exact ⟨_,_,_,_,hk.2,fun K' h=>⟨hk.1,h⟩⟩
  ·exact hk.elim
theorem goK_pt (hi:InlPt A) {rid:Nat} {ops:List Oper} {id i:Nat} {o:Oper} {s:St} {kn:Kn}:PtS (goK P O n A rid ops id i o s kn):=by
 intro K hk
 unfold goK at hk
 split at hk
 ·rename_i a ha
  obtain ⟨v,h',nx',ft,h1,h2⟩:=hintK_pt hi a _ hk
  exact ⟨_,_,_,h1,fun K' h=>by unfold goK;simp only[ha];exact h2 _ h⟩
 ·rename_i ha
  obtain ⟨v,h',nx',ft,h1,h2⟩:=esK_pt hi _ _ hk
  exact ⟨_,_,_,h1,fun K' h=>by unfold goK;simp only[ha];exact h2 _ h⟩
theorem noK_pt {o:Oper} {s:St} {kn:Kn}:PtS (noK o s kn):=fun _K hk=>⟨_,_,_,hk,fun _ h=>h⟩
theorem stepK_pt (hi:InlPt A) {rid:Nat} {ops:List Oper} {id i:Nat} {o:Oper} {s:St} {kn:Kn}:PtS (stepK P O n A rid ops id i o s kn):=by
 intro K hk
 unfold stepK at hk⊢
 split at hk
 ·exact goK_pt hi K hk
 ·split at hk
  ·split at hk
   ·split at hk
    ·split at hk
     ·split at hk
      ·exact goK_pt hi K hk
      ·exact noK_pt K hk
     ·split at hk
      ·exact noK_pt K hk
      ·exact goK_pt hi K hk
    ·split at hk
     ·split at hk
      ·split at hk
       ·exact goK_pt hi K hk
       ·exact noK_pt K hk
      ·split at hk
       ·exact noK_pt K hk
       ·exact goK_pt hi K hk
     ·exact noK_pt K hk
     ·exact hk.elim
   ·exact hk.elim
  ·exact hk.elim
theorem runOpsK_pt (hi:InlPt A) {rid:Nat} {all:List Oper} {base:Nat}:∀ (rest:List Oper) (i:Nat) (s:St) (kn:Kn) (acc:List (Nat × Foot)),PtF (runOpsK P O n A rid all base rest i s kn acc)
 |[],_,_,_,_=>fun _ hk=>⟨_,_,hk,fun _ h=>h⟩
 |o::rest,i,s,kn,acc=>fun K hk=>by
  obtain ⟨kn',s',ft,h1,h2⟩:=stepK_pt hi _ hk
  obtain ⟨s2,ft2,h3,h4⟩:=runOpsK_pt hi rest (i+1) s' kn' _ _ h1
  exact ⟨s2,ft2,h3,fun K' h=>h2 _ (h4 K' h)⟩
theorem loopK_pt {B:St→(AExit→St→Prop)→Prop} (hB:∀s,PtE (B s)):∀ (k:Nat) (s:St),PtE (loopK B k s)
 |0,_=>fun _ hk=>hk.elim
 | k+1,s=>fun Q hk=>by
  obtain ⟨e,s',h1,h2⟩:=hB s _ hk
  cases e with
  |normal=>
   obtain ⟨e,s2,h3,h4⟩:=loopK_pt hB k s' Q h1
   exact ⟨e,s2,h3,fun Q' h=>h2 _ (h4 Q' h)⟩
  |exit i=>exact ⟨_,_,h1,fun Q' h=>h2 _ h⟩
  |ret=>exact ⟨_,_,h1,fun Q' h=>h2 _ h⟩
theorem wpK_pt (hi:InlPt A) (hcut:A.cut=noCut) (hls:∀r L,A.ls r=some L→∀s,PtE (L s)):∀ (c:Code) (s:St),PtE (wpK P O n A c s):=by
 intro c
 induction c with
 |skip=>exact fun s Q hk=>⟨_,_,hk,fun _ h=>h⟩
 |label l=>exact fun s Q hk=>⟨_,_,hk,fun _ h=>h⟩
 |exit i=>exact fun s Q hk=>⟨_,_,hk,fun _ h=>h⟩
 |ret=>exact fun s Q hk=>⟨_,_,hk,fun _ h=>h⟩
 | region rid ops draw=>
  intro s Q hk
  simp only[wpK,hcut,noCut,regK] at hk⊢
  obtain ⟨s',ft,h1,h2⟩:=runOpsK_pt hi _ _ _ _ _ _ hk
  cases draw with
  |false=>exact ⟨_,_,h1,fun Q' h=>h2 _ h⟩
  |true=>
   obtain ⟨hb,h1⟩:=oblB_iff.1 h1
   exact ⟨_,_,h1,fun Q' h=>h2 _ (oblB_iff.2 ⟨hb,h⟩)⟩
 | seq a b iha ihb=>
  intro s Q hk
  simp only[wpK] at hk⊢
  obtain ⟨e,s',h1,h2⟩:=iha s _ hk
  cases e with
  |normal=>
   obtain ⟨e,s2,h3,h4⟩:=ihb s' Q h1
   exact ⟨e,s2,h3,fun Q' h=>h2 _ (h4 Q' h)⟩
  |exit i=>exact ⟨_,_,h1,fun Q' h=>h2 _ h⟩
  |ret=>exact ⟨_,_,h1,fun Q' h=>h2 _ h⟩
 | cond c a b iha ihb=>
  intro s Q hk
  simp only[wpK] at hk⊢
  split at hk
  ·split at hk
   ·exact iha _ Q hk
   ·exact ihb _ Q hk
  ·exact hk.elim
 | block id body ih=>
  intro s Q hk
  simp only[wpK] at hk⊢
  obtain ⟨e,s',h1,h2⟩:=ih s _ hk
  cases e with
  |normal=>exact ⟨_,_,h1,fun Q' h=>h2 _ h⟩
  |ret=>exact ⟨_,_,h1,fun Q' h=>h2 _ h⟩
  | exit i=>
   simp only[blockK] at h1
   split at h1
   ·rename_i hb
    exact ⟨_,_,h1,fun Q' h=>h2 _ (by simp only[blockK,hb];exact h)⟩
   ·rename_i hb
    exact ⟨_,_,h1,fun Q' h=>h2 _ (by simp only[blockK,hb];exact h)⟩
 | loop body ih=>
  intro s Q hk
  simp only[wpK] at hk⊢
  split at hk
  ·rename_i L hL
   exact hls _ L hL s Q hk
  ·exact loopK_pt ih _ s Q hk
 |_=>exact fun s Q hk=>hk.elim
theorem fnK_pt (hi:InlPt A) (hcut:A.cut=noCut) (hls:∀r L,A.ls r=some L→∀s,PtE (L s)) {f:FuncId} {args:List AV} {H:Heap} {nx:Nat}:Pt3 (fnK P O n A f args H nx):=by
 intro K hk
 unfold fnK at hk
 split at hk
 ·rename_i fn hfn
  split at hk
  ·rename_i c hc
   split at hk
   ·exact hk.elim
   ·rename_i hname
    split at hk
    ·exact hk.elim
    ·rename_i hsz
     obtain ⟨e,s,h1,h2⟩:=wpK_pt hi hcut hls c _ _ hk
     have fin:∀ {e:AExit},(∀i,e≠ .exit i)→(match e with
       | .exit _=>False
       |_=>match resA P O.glob s fn.results.toList with
        |some l=>K (tupA l) s.heap s.nx
        |none=>False)→∃l,resA P O.glob s fn.results.toList=some l∧K (tupA l) s.heap s.nx:=fun {e} hne h=>by
      split at h
      ·exact h.elim
      ·split at h
       ·rename_i l hl
        exact ⟨l,hl,h⟩
       ·exact h.elim
     have back:∀ {l:List AV},resA P O.glob s fn.results.toList=some l→(∀i,e≠ .exit i)→∀K':AV→Heap→Nat→Prop,K' (tupA l) s.heap s.nx→fnK P O n A f args H nx K':=fun {l} hl hne K' h=>by
      unfold fnK
      simp only[hfn,hc,hname,hsz]
      refine h2 _ ?_
      split
      ·exact absurd rfl (hne _)
      ·simp only[hl];exact h
     cases e with
     |exit i=>exact h1.elim
     |normal=>
      obtain ⟨l,hl,hK⟩:=fin (e:= .normal) (fun _ h=>by cases h) h1
      exact ⟨_,_,_,hK,fun K' h=>back hl (fun _ h=>by cases h) K' h⟩
     |ret=>
      obtain ⟨l,hl,hK⟩:=fin (e:= .ret) (fun _ h=>by cases h) h1
      exact ⟨_,_,_,hK,fun K' h=>back hl (fun _ h=>by cases h) K' h⟩
  ·exact hk.elim
 ·exact hk.elim
theorem fnK_inl (B:Base P O n) (hA:AidOk P O A) (hi:InlPt A) (hcut:A.cut=noCut) (hls:A.ls=fun _=>none) {f:FuncId} {args:List AV} {h:Heap} {nx:Nat} {K:AV→Heap→Nat→Prop} (hk:fnK P O n A f args h nx K):
  ∃v h' nx',K v h' nx'∧BodySem P O.glob f args h nx v h' nx':=by
 obtain ⟨v,h',nx',h1,h2⟩:=fnK_pt hi hcut (fun r L hL=>by rw[hls] at hL;cases hL) K hk
 exact ⟨v,h',nx',h1,fnK_bodySem B hA (fnLs_none fun r=>by rw[hls]) (h2 _ ⟨rfl,rfl,rfl⟩)⟩
end
noncomputable def inlN (P:Program) (O:Opts) (n:Nat) (sem:SemT) (isI:FuncId→Option (List AV→Heap→List Nat)):Nat→FuncId→Option Inl
 |0=>fun _=>none
 |d+1=>fun f=>match isI f with
  |some see=>some ⟨see,fnK P O n ⟨fun _ _=>none,fun _=>none,noCx,sem,inlN P O n sem isI d,noCut⟩ f⟩
  |none=>none
section
variable {P:Program} {O:Opts} {n:Nat} {sem:SemT} {isI:FuncId→Option (List AV→Heap→List Nat)}
theorem inlN_pt:∀ (d:Nat) f T,inlN P O n sem isI d f=some T→∀args h nx,Pt3 (T.run args h nx)
 |0,_,_,h=>by cases h
 | d+1,f,T,h=>by
  simp only[inlN] at h
  split at h
  ·simp only[Option.some.injEq] at h
   subst h
   exact fun args h nx=>fnK_pt (A:=⟨fun _ _=>none,fun _=>none,noCx,sem,inlN P O n sem isI d,noCut⟩) (fun f T hT=>inlN_pt d f T hT) rfl (fun r L hL=>by cases hL)
  ·cases h
theorem inlN_ok (B:Base P O n) (hsum:∀f args v,O.summ f args=some v→SemCall P O.glob f args v):∀ (d:Nat) f T,inlN P O n sem isI d f=some T→∀args h nx K,T.run args h nx K→∃v h' nx',K v h' nx'∧BodySem P O.glob f args h nx v h' nx'
 |0,_,_,h=>by cases h
 | d+1,f,T,h=>by
  simp only[inlN] at h
  split at h
  ·simp only[Option.some.injEq] at h
   subst h
   exact fun args h nx K hk=>fnK_inl B (A:=⟨fun _ _=>none,fun _=>none,noCx,sem,inlN P O n sem isI d,noCut⟩) ⟨noCall_ok,hsum,fun f T hT=>inlN_ok B hsum d f T hT,fun _ _ h=>(by cases h)⟩ (fun f T hT=>inlN_pt d f T hT) rfl rfl hk
  ·cases h
end
def seeAll:List AV→Heap→List Nat:=fun _ h=>h.map (·.1)
def seeNone:List AV→Heap→List Nat:=fun _ _=>[]
def manyI:List FuncId→List FuncId→FuncId→Option (List AV→Heap→List Nat):=fun pure all f=>match memN pure f with
 |true=>some seeNone
 |false=>match memN all f with
  |true=>some seeAll
  |false=>none
noncomputable def aidI (P:Program) (O:Opts) (n:Nat) (hint:Nat→Nat→Option Hint) (ls:Nat→Option LoopS) (sem:SemT) (isI:FuncId→Option (List AV→Heap→List Nat)):Aid:=⟨hint,ls,noCx,sem,inlN P O n sem isI 8,noCut⟩
theorem aidI_ok {P:Program} {O:Opts} {n:Nat} {hint:Nat→Nat→Option Hint} {ls:Nat→Option LoopS} {sem:SemT} {isI:FuncId→Option (List AV→Heap→List Nat)} (B:Base P O n) (h:∀f args v,O.summ f args=some v→SemCall P O.glob f args v):AidOk P O (aidI P O n hint ls sem isI):=
 ⟨noCall_ok,h,fun f T hT=>inlN_ok B h 8 f T hT,fun _ _ h=>(by cases h)⟩
end Go.Proofs.Abs
/- What calls answer, by their numbers; values that say less; items as trees. -/
namespace Go.Proofs.Abs
open Go
noncomputable section
def manyS:List (FuncId × AV)→SemT
 |[],_,_,_,_=>none
 |(f,v)::t,g,a,h,nx=>match Nat.beq g f with
  |true=>some (.val v)
  |false=>manyS t g a h nx
def manyF:List (FuncId × (List AV→Option AV))→SemT
 |[],_,_,_,_=>none
 | (f,k)::t,g,a,h,nx=>match Nat.beq g f with
  |true=>match k a with
   |some v=>some (.val v)
   |none=>none
  |false=>manyF t g a h nx
structure Wk (v v':AV):Prop where
 out:∀w I α x,Rep w I α v x→Rep w I α v' x
structure WkL (l l':List AV):Prop where
 out:∀w I α x,RepL w I α l x→RepL w I α l' x
 len:l.length=l'.length
 at_:∀ (i:Nat) x y,l[i]? =some x→l'[i]? =some y→Wk x y
theorem Wk.refl (v:AV):Wk v v:=⟨fun _ _ _ _ h=>h⟩
theorem Wk.trans {u v w:AV} (h:Wk u v) (h':Wk v w):Wk u w:=⟨fun _ _ _ _ r=>h'.out _ _ _ _ (h.out _ _ _ _ r)⟩
theorem WkL.nil:WkL [] []:=⟨fun _ _ _ _ h=>h,rfl,by simp⟩
theorem WkL.refl (l:List AV):WkL l l:=⟨fun _ _ _ _ h=>h,rfl,fun i x y h1 h2=>by rw[h1] at h2;cases h2;exact .refl x⟩
theorem WkL.cons {a b:AV} {t u:List AV} (h:Wk a b) (ht:WkL t u):WkL (a::t) (b::u):=
 ⟨fun w I α x r=>by
  obtain ⟨y,v',rfl,h1,h2⟩:=RepL.cons_inv r
  exact .cons (h.out _ _ _ _ h1) (ht.out _ _ _ _ h2),by simp[ht.len],fun i x y h1 h2=>by
  cases i with
  |zero=>simp at h1 h2;subst h1;subst h2;exact h
  |succ i=>simp at h1 h2;exact ht.at_ i x y h1 h2⟩
theorem WkL.append {a b c d:List AV} (h:WkL a b) (h':WkL c d):WkL (a++c) (b++d):=by
 have hl:=h.len
 have hl':=h'.len
 refine ⟨fun w I α x r=>⟨by have:=r.1;simp only[List.length_append] at this⊢;omega,fun i p q e1 e2=> ?_⟩,by simp only[List.length_append];omega,fun i p q e1 e2=> ?_⟩
 ·have hi:i<(a++c).length:=by
   have:i<(b++d).length:=by
    rcases Nat.lt_or_ge i (b++d).length with h|h
    ·exact h
    ·rw[List.getElem?_eq_none h] at e1;cases e1
   simp only[List.length_append] at this⊢;omega
  have r':=r.2 i _ q (List.getElem?_eq_getElem hi) e2
  have key:Wk ((a++c)[i]) p:=by
   have e3:=List.getElem?_eq_getElem hi
   by_cases hlt:i<a.length
   ·rw[List.getElem?_append_left hlt] at e3
    rw[List.getElem?_append_left (by omega)] at e1
    exact h.at_ i _ _ e3 e1
   ·rw[List.getElem?_append_right (by omega)] at e3 e1
    rw[hl] at e3
    exact h'.at_ _ _ _ e3 e1
  exact key.out _ _ _ _ r'
 ·by_cases hlt:i<a.length
  ·rw[List.getElem?_append_left hlt] at e1
   rw[List.getElem?_append_left (by omega)] at e2
   exact h.at_ i _ _ e1 e2
  ·rw[List.getElem?_append_right (by omega)] at e1 e2
   rw[hl] at e1
   exact h'.at_ _ _ _ e1 e2
theorem Wk.nil {f:Bool}:Wk .nilsl (.fsl f []):=⟨fun w I α x h=>by
 cases h
 exact .fsl f [] none 0 0 0 0 0 (fun _ _=>undef) rfl (Nat.le_refl _) (fun _=>rfl) (.inr ⟨rfl,rfl⟩) (fun h=>absurd rfl h) (by simp) (by simp) (by simp)⟩
theorem Wk.full {l:List AV}:Wk (.fsl true l) (.fsl false l):=⟨fun w I α x h=>by
 cases h with
 |fsl _ _ a len cap sz b base g hl hc hf ha hI hs hg hr=>
  exact .fsl false l a len cap sz b base g hl hc (fun h=>by cases h) ha hI hs hg hr⟩
theorem Wk.row {f:Bool} {l:List AV}:Wk (.fsl f l) (.fsl false l):=by
 cases f with
 |true=>exact .full
 |false=>exact .refl _
theorem Wk.els {l l':List AV} (hlen:l.length=l'.length) (h:∀ (i:Nat) (x y:AV),l[i]? =some x→l'[i]? =some y→WkL x.cells y.cells):Wk (.fsl false l) (.fsl false l'):=⟨fun w I α x hx=>by
 have get:∀ (i:Nat) (y:AV),l'[i]? =some y→∃x:AV,l[i]? =some x∧WkL x.cells y.cells:=fun i y hy=>by
  have hi:i<l.length:=by
   rw[hlen]
   rcases Nat.lt_or_ge i l'.length with h|h
   ·exact h
   ·rw[List.getElem?_eq_none h] at hy;cases hy
  exact ⟨_,List.getElem?_eq_getElem hi,h i _ _ (List.getElem?_eq_getElem hi) hy⟩
 cases hx with
 | fsl _ _ a len cap sz b base g hl hc hf ha hI hs hg hr=>
  have cell:∀ (i:Nat) (e:AV) (j:Nat) (c:AV),l'[i]? =some e→e.cells[j]? =some c→∃ (e0 c0:AV),l[i]? =some e0∧e0.cells[j]? =some c0∧Wk c0 c:=fun i e j c h1 h2=>by
   obtain ⟨e0,k1,k2⟩:=get i e h1
   have hj:j<e0.cells.length:=by
    rw[k2.len]
    rcases Nat.lt_or_ge j e.cells.length with h|h
    ·exact h
    ·rw[List.getElem?_eq_none h] at h2;cases h2
   exact ⟨e0,_,k1,List.getElem?_eq_getElem hj,k2.at_ j _ _ (List.getElem?_eq_getElem hj) h2⟩
  refine .fsl false l' a len cap sz b base g (by omega) hc (fun h=>by cases h) ?_ (fun hne=>hI fun h0=>hne ?_) (fun e he=> ?_) (fun i e j c h1 h2=> ?_) (fun i e j c h1 h2=> ?_)
  ·exact ha
  ·subst h0;exact List.eq_nil_of_length_eq_zero hlen.symm
  ·obtain ⟨i,hi⟩:=List.getElem?_of_mem he
   obtain ⟨e0,k1,k2⟩:=get i e hi
   rw[←k2.len]
   exact hs e0 (List.mem_of_getElem? k1)
  ·obtain ⟨e0,c0,k1,k2,_⟩:=cell i e j c h1 h2
   exact hg i e0 j c0 k1 k2
  ·obtain ⟨e0,c0,k1,k2,k3⟩:=cell i e j c h1 h2
   exact k3.out _ _ _ _ (hr i e0 j c0 k1 k2)⟩
structure WkE (l l':List AV):Prop where
 len:l.length=l'.length
 at_:∀ (i:Nat) (x y:AV),l[i]? =some x→l'[i]? =some y→WkL x.cells y.cells
theorem WkE.nil:WkE [] []:=⟨rfl,by simp⟩
theorem WkE.refl (l:List AV):WkE l l:=⟨rfl,fun i x y h1 h2=>by rw[h1] at h2;cases h2;exact .refl _⟩
theorem WkE.cons {x y:AV} {l l':List AV} (h:WkL x.cells y.cells) (t:WkE l l'):WkE (x::l) (y::l'):=
 ⟨by simp[t.len],fun i x' y' h1 h2=>by
  cases i with
  |zero=>simp at h1 h2;subst h1;subst h2;exact h
  |succ i=>simp at h1 h2;exact t.at_ i x' y' h1 h2⟩
theorem WkE.consA {a b:List AV} {l l':List AV} (h:WkL a b) (t:WkE l l'):WkE (.agg a::l) (.agg b::l'):= .cons h t
theorem WkE.map {α:Type} {f g:α→AV} {l:List α} (h:∀x∈l,WkL (f x).cells (g x).cells):WkE (l.map f) (l.map g):=
 ⟨by simp,fun i x y h1 h2=>by
  rw[List.getElem?_map,Option.map_eq_some_iff] at h1 h2
  obtain ⟨a,ha,rfl⟩:=h1
  obtain ⟨b,hb,rfl⟩:=h2
  rw[ha] at hb;cases hb
  exact h a (List.mem_of_getElem? ha)⟩
theorem Wk.rows {f:Bool} {l l':List AV} (h:WkE l l'):Wk (.fsl f l) (.fsl false l'):=Wk.row.trans (.els h.len h.at_)
theorem Wk.agg {l l':List AV} (h:WkL l l'):Wk (.agg l) (.agg l'):=⟨fun w I α x r=>by
 obtain ⟨a',rfl,h1⟩:=Rep.agg_iff.1 r
 exact Rep.agg_iff.2 ⟨a',rfl,h.out _ _ _ _ h1⟩⟩
theorem Wk.tuple {l l':List AV} (h:WkL l l'):Wk (.tuple l) (.tuple l'):=⟨fun w I α x r=>by
 obtain ⟨a',rfl,h1⟩:=Rep.tuple_iff.1 r
 exact Rep.tuple_iff.2 ⟨a',rfl,h.out _ _ _ _ h1⟩⟩
theorem Wk.iface {t:TypeId} {v v':AV} (h:Wk v v'):Wk (.iface t v) (.iface t v'):=⟨fun w I α x r=>by
 cases r with
 |iface _ _ v'' hv=>exact .iface t _ _ (h.out _ _ _ _ hv)⟩
theorem Wk.func {fn:Fn} {a c a' c':List AV} (h1:WkL a a') (h2:WkL c c'):Wk (.func fn a c) (.func fn a' c'):=⟨fun w I α x r=>by
 obtain ⟨u,v,rfl,k1,k2⟩:=Rep.func_iff.1 r
 exact Rep.func_iff.2 ⟨u,v,rfl,h1.out _ _ _ _ k1,h2.out _ _ _ _ k2⟩⟩
theorem Wk.fptr {l l':List AV} {o:Nat} (h:WkL l l'):Wk (.fptr l o) (.fptr l' o):=⟨fun w I α x r=>by
 cases r with
 | fptr _ _ b base g hI hg hr=>
  have cell:∀ (j:Nat) (c:AV),l'[j]? =some c→∃c0:AV,l[j]? =some c0∧Wk c0 c:=fun j c h2=>by
   have hj:j<l.length:=by
    rw[h.len]
    rcases Nat.lt_or_ge j l'.length with h|h
    ·exact h
    ·rw[List.getElem?_eq_none h] at h2;cases h2
   exact ⟨_,List.getElem?_eq_getElem hj,h.at_ j _ _ (List.getElem?_eq_getElem hj) h2⟩
  refine .fptr l' o b base g hI (fun j c hc=> ?_) (fun j c hc=> ?_)
  ·obtain ⟨c0,k1,_⟩:=cell j c hc
   exact hg j c0 k1
  ·obtain ⟨c0,k1,k2⟩:=cell j c hc
   exact k2.out _ _ _ _ (hr j c0 k1)⟩
theorem rep_empty {f:Bool} {w:World} {I:Nat→Prop} {α:Nat→Option Nat} {x:Value} (h:Rep w I α (.fsl f []) x):Rep w I α .nilsl x∨Rep w I α .nesl x:=by
 cases h with
 |fsl _ _ a len cap sz b base g hl hc hf ha hI hs hg hr=>
  obtain rfl:len=0:=by simpa using hl.symm
  rcases ha with rfl|⟨rfl,rfl⟩
  ·exact .inr (.nesl _ _)
  ·exact .inl .nilsl
section
variable {P:Program} {G:Glob} {f:FuncId} {args args':List AV} {v v':AV}
theorem SemCall.wkA (h:SemCall P G f args' v) (hw:WkL args args'):SemCall P G f args v:=
 ⟨fun w I α H rid nx vs r hr=>h.out w I α H rid nx vs r (hw.out _ _ _ _ hr)⟩
theorem out_imp {Q Q':Value→World→Prop} {r:Result Next} (h:Out P Q r) (hq:∀v w,Q v w→Q' v w):Out P Q' r:=by
 unfold Out at h⊢
 split at h
 ·exact hq _ _ h
 ·exact hq _ _ h
 ·exact Calls.mono h fun e w' ⟨v,h1,h2⟩=>⟨v,h1,hq _ _ h2⟩
 ·exact h
theorem SemCall.wk (h:SemCall P G f args' v) (ha:WkL args args') (hv:Wk v v'):SemCall P G f args v':=
 ⟨fun w I α H rid nx vs r hr h1 h2 h3=>out_imp (h.out w I α H rid nx vs r (ha.out _ _ _ _ hr) h1 h2 h3) fun _ _ ⟨⟨I',α',q1,q2,q3,q4⟩,hle⟩=>⟨⟨I',α',q1,q2,hv.out _ _ _ _ q3,q4⟩,hle⟩⟩
theorem SemCall.res (h:SemCall P G f args v) (hv:Wk v v'):SemCall P G f args v':=h.wk (.refl _) hv
theorem SemCall.empty (h1:SemCall P G f [.nilsl] v) (h2:SemCall P G f [.nesl] v):SemCall P G f [.fsl false []] v:=
 ⟨fun w I α H rid nx vs r hr k1 k2 k3=>by
  obtain ⟨y,v',e,hy,ht⟩:=RepL.cons_inv hr
  have:RepL w I α [.nilsl] vs.toList∨RepL w I α [.nesl] vs.toList:=by
   rw[e]
   rcases rep_empty hy with h|h
   ·exact .inl (.cons h ht)
   ·exact .inr (.cons h ht)
  rcases this with h|h
  ·exact h1.out w I α H rid nx vs r h k1 k2 k3
  ·exact h2.out w I α H rid nx vs r h k1 k2 k3⟩
end
inductive It where
 |mk (tag ty n:Int) (data:List UInt8) (kids:List It)
mutual
def itA:It→AV
 | .mk t y n d ks=> .agg [.int .i64 t,.int .i64 y,.int .i64 n,.fsl false (toBytes d),.fsl false (itAs ks)]
def itAs:List It→List AV
 |[]=>[]
 |k::r=>itA k::itAs r
end
mutual
def okI (m:Nat):It→Prop
 | .mk _ _ _ d ks=>d.length≤m∧ks.length≤m∧okIs m ks
def okIs (m:Nat):List It→Prop
 |[]=>True
 |k::r=>okI m k∧okIs m r
end
mutual
def sameI:It→It→Bool
 | .mk t y n d ks,.mk t' y' n' d' ks'=>beqInt t t'&&(beqInt y y'&&(beqInt n n'&&(beqBytes d d'&&sameIs ks ks')))
def sameIs:List It→List It→Bool
 |[],[]=>true
 |k::r,k'::r'=>sameI k k'&&sameIs r r'
 |_,_=>false
end
mutual
theorem sameI_iff:∀x y:It,sameI x y=true↔x=y
 | .mk t y n d ks,.mk t' y' n' d' ks'=>by
  simp only[sameI,Bool.and_eq_true,beqInt_iff,beqBytes_iff,sameIs_iff ks ks',It.mk.injEq]
theorem sameIs_iff:∀l r:List It,sameIs l r=true↔l=r
 |[],[]=>by simp[sameIs]
 |[],_::_=>by simp[sameIs]
 |_::_,[]=>by simp[sameIs]
 |k::r,k'::r'=>by simp only[sameIs,Bool.and_eq_true,sameI_iff k k',sameIs_iff r r',List.cons.injEq]
end
theorem sameIs_length {l r:List It} (h:sameIs l r=true):l.length=r.length:=by rw[(sameIs_iff l r).1 h]
@[simp] theorem one_int {k:IntKind} {n:Int}:(AV.int k n).one=true:=rfl
@[simp] theorem one_str {s:List UInt8}:(AV.str s).one=true:=rfl
@[simp] theorem one_bool {b:Bool}:(AV.bool b).one=true:=rfl
@[simp] theorem one_fsl {f:Bool} {l:List AV}:(AV.fsl f l).one=true:=rfl
theorem fits_agg {P:Program} {t:TypeId} {l:List AV} {n:Nat} (h:isAggA P t=some true) (hl:Nat.beq (lenN l) n=true) (ho:allOne l=true):fitsT P t (.agg l) n=true:=by simp only[fitsT,h,AV.cells,hl,ho];rfl
theorem oblB_of {b:Bool} {K:Prop} (h:b=true) (k:K):oblB b K:=oblB_iff.2 ⟨h,k⟩
theorem itAs_map:∀l:List It,itAs l=l.map itA
 |[]=>rfl
 |k::r=>by simp only[itAs,List.map_cons,itAs_map r]
theorem okIs_iff {m:Nat}:∀ {l:List It},okIs m l↔∀k∈l,okI m k
 |[]=>by simp[okIs]
 |k::r=>by simp only[okIs,okIs_iff (l:=r),List.forall_mem_cons]
mutual
theorem closed_it:∀x:It,closedA (itA x)=true
 | .mk t y n d ks=>by
  have h:=closed_its ks
  simp[itA,closedA,closedAll,h]
theorem closed_its:∀l:List It,closedAll (itAs l)=true
 |[]=>rfl
 |k::r=>by simp only[itAs,closedAll,closed_it k,closed_its r,Bool.and_self]
end
end
end Go.Proofs.Abs
/- Loops, round by round; what hints ask. -/
namespace Go.Proofs.Abs
open Go
section
variable {P:Program} {G:Glob} {nx0:Nat} {s s2:St} {Q:AExit→St→Prop} {body:Code}
structure ALp (P:Program) (G:Glob) (nx0:Nat) (body:Code) (s:St) (Q:AExit→St→Prop):Prop where
 out:∃k,ARnd P G nx0 body Q k s
theorem ALp.loop (h:ALp P G nx0 body s Q):AWp P G nx0 (.loop body) s Q:=by
 obtain ⟨k,h⟩:=h
 exact .loop k h
theorem ARnd.says (hs:Says2 G nx0 s s2):∀ {k:Nat},ARnd P G nx0 body Q k s2→ARnd P G nx0 body Q k s
 |0,h=>h
 |_+1,h=>AWp.says hs h
theorem ALp.says (hs:Says2 G nx0 s s2) (h:ALp P G nx0 body s2 Q):ALp P G nx0 body s Q:=by
 obtain ⟨k,h⟩:=h
 exact ⟨k,h.says hs⟩
end
def roundP (nx0:Nat) (lk:List (Nat × Nat)) (V:View) (N:Prop) (lk':List (Nat × Nat)) (F:View) (Q:AExit→St→Prop):AExit→St→Prop:=fun e s=>match e with
 | .normal=>seesK nx0 lk V s∧N
 |e=>seesK nx0 lk' F s∧Q e F.st
theorem ALp.round {P:Program} {O:Opts} {n:Nat} {nx0:Nat} {Q:AExit→St→Prop} {body:Code} {A:Aid} {V0 V1 V2 F:View} {lk lk':List (Nat × Nat)} (B:Base P O n) (hA:AidOk P O A) (hls:LsOk P O.glob nx0 A body)
  (hM:Says2 O.glob nx0 V1.st V2.st) (h:wpK P O n A body V0.st (roundP nx0 lk V1 (ALp P O.glob nx0 body V2.st Q) lk' F Q)):ALp P O.glob nx0 body V0.st Q:=by
 have h:=wpK_ok B hA body _ _ hls h
 by_cases hN:ALp P O.glob nx0 body V2.st Q
 ·obtain ⟨k,hk⟩:=hN
  refine ⟨k+1,h.saysEnd fun e s hq=> ?_⟩
  cases e with
  |normal=>exact ⟨_,(seesK_says B.glob hq.1).trans hM,hk⟩
  |exit i=>exact ⟨_,seesK_says B.glob hq.1,hq.2⟩
  |ret=>exact ⟨_,seesK_says B.glob hq.1,hq.2⟩
 ·refine ⟨1,h.saysEnd fun e s hq=> ?_⟩
  cases e with
  |normal=>exact absurd hq.2 hN
  |exit i=>exact ⟨_,seesK_says B.glob hq.1,hq.2⟩
  |ret=>exact ⟨_,seesK_says B.glob hq.1,hq.2⟩
theorem LsOk.at1 {P:Program} {G:Glob} {nx0 r1:Nat} {L1:LoopS} {b1:Code} {c:Code} {A:Aid} (hA:A.ls=manyL [(r1,L1)]) (a1:loopsAt c r1=[b1]) (h1:∀s Q,L1 s Q→AWp P G nx0 (.loop b1) s Q):LsOk P G nx0 A c:=
 LsOk.many hA fun p hp b hb s Q hs=>by
  simp only[List.mem_singleton] at hp;subst hp
  rw[a1,List.mem_singleton] at hb;subst hb;exact h1 s Q hs
theorem LsOk.at2 {P:Program} {G:Glob} {nx0 r1 r2:Nat} {L1 L2:LoopS} {b1 b2:Code} {c:Code} {A:Aid} (hA:A.ls=manyL [(r1,L1),(r2,L2)]) (a1:loopsAt c r1=[b1]) (a2:loopsAt c r2=[b2]) (h1:∀s Q,L1 s Q→AWp P G nx0 (.loop b1) s Q) (h2:∀s Q,L2 s Q→AWp P G nx0 (.loop b2) s Q):LsOk P G nx0 A c:=
 LsOk.many hA fun p hp b hb s Q hs=>by
  simp only[List.mem_cons,List.not_mem_nil,or_false] at hp
  rcases hp with rfl|rfl
  ·rw[a1,List.mem_singleton] at hb;subst hb;exact h1 s Q hs
  ·rw[a2,List.mem_singleton] at hb;subst hb;exact h2 s Q hs
theorem AWp.seen {P:Program} {G:Glob} {nx0:Nat} {lk:List (Nat × Nat)} {V:View} {s:St} {Q:AExit→St→Prop} {body:Code} (hg:∀g l,G g=some l→closedAll l=true) (hs:seesK nx0 lk V s) (h:ALp P G nx0 body V.st Q):AWp P G nx0 (.loop body) s Q:=(h.says (seesK_says hg hs)).loop
theorem sem_of_calls {P:Program} {O:Opts} {n:Nat} {f:FuncId} {args:List AV} {v:AV} (hm:P.follows .mixedOrders=true) (hsum:∀f args v,O.summ f args=some v→SemCall P O.glob f args v) (hcx:CallOk P O.glob O.cx∧CallLoc O.cx) (hg:∀g l,O.glob g=some l→closedAll l=true)
  (h:∀id h nx,callN P O n f args id h nx=some (v,h,nx,⟨false,[],[]⟩)):SemCall P O.glob f args v:=by
 obtain ⟨h1,_⟩:=calls_sound (P:=P) (O:=O) hm hsum hg hcx n
 exact ⟨fun w I α H rid nx vs r ha hrid hlt hf=>h1 f args rid H nx v H nx _ (h rid H nx) w I α vs r ha hrid hlt hf⟩
theorem fnK_semV {P:Program} {O:Opts} {n:Nat} {A:Aid} {f:FuncId} {args:List AV} {v:AV} (B:Base P O n) (hA:AidOk P O A) (hl:FnLs P O.glob 0 A f) (hcl:closedAll args=true) (hv:closedA v=true)
  (h:fnK P O n A f args [] 0 (fun u _ _=>u=v)):SemCall P O.glob f args v:=by
 obtain ⟨fn,c,hfn,hc,hname,hsz,hw⟩:=fnK_body B hA hl h
 refine sem_of_wp B hfn hc hname hsz hcl fun w I a hr=>wp_mono (hw.out w I _ [] [] a w (fun _ _=>rfl) hr) ?_
 rintro e a' w' ⟨x,s',rfl,h2,hx,l,hl,hq⟩
 refine ⟨s',l, ?_,h2,hl, ?_,hv⟩
 ·rcases hx with rfl|rfl
  ·exact .inl rfl
  ·exact .inr rfl
 ·rw[hq];exact (Frz.closed v hv).out
def endX (v u:AV) (H:Heap):Prop:=∃r,(∃d,freezeA 0 H d u=some r)∧closedA r=true∧Wk r v
def endV (v u:AV):Prop:=closedA u=true∧Wk u v
theorem sem_of_wpX {P:Program} {O:Opts} {n:Nat} (B:Base P O n) {f:FuncId} {fn:Func} {c:Code} {args:List AV} {v:AV} (hfn:P.funcs[f]? =some fn) (hc:fn.body=some c) (hname:(fn.name== "runtime.NumGoroutine")=false) (hsz:(Nat.ble (lenN args) fn.ntmps&&Nat.ble fn.ntmps 4095)=true)
  (hcl:closedAll args=true) (h:∀w I a,CR O.glob w I (fun _=>none) [] 0 [] ⟨argsT args 0 .tip,[],0,fn.ntmps⟩ a w→
   c.wp P (fun e a' w'=>∃s l,(exitOf .normal=e∨exitOf .ret=e)∧CR O.glob w I (fun _=>none) [] 0 [] s a' w'∧resA P O.glob s fn.results.toList=some l∧endX v (tupA l) s.heap) a w):
  SemCall P O.glob f args v:=by
 refine ⟨?_⟩
 intro w I α H rid nx vs r ha hrid hlt hf
 rw[Bool.and_eq_true,Nat.ble_eq,Nat.ble_eq,lenN_eq] at hsz
 have e1:(callFunc f vs).run P w= .ok (.enter f vs) w:=by
  unfold callFunc
  simp only[Sem.run_bind,run_program,Result.andThen_ok,hfn,hname,hc,Bool.false_eq_true,if_false,Option.isNone_some,Sem.run_pure]
 rw[e1]
 refine calls_of_wp hfn hc ?_
 have hra:RepL w I (fun _=>none) args vs.toList:=repl_closed ha hcl
 have hvs:args.length=vs.size:=by rw[hra.1];simp
 have hr0:CR O.glob w I (fun _=>none) [] 0 [] ⟨argsT args 0 .tip,[],0,fn.ntmps⟩ {tmps:=vs++Array.replicate (fn.ntmps-vs.size) undef,defers:=[]} w:=
  ⟨⟨I,fun _=>none,.refl,rel_empty B.glob r,slots_args hra (by omega),fun i hi=>absurd hi (Nat.not_lt_zero i),fun _ _=>rfl,fun id h=>absurd rfl h⟩,Nat.le_refl _,Nat.le_refl _,rfl,by simp;omega,hsz.2⟩
 refine wp_mono (h w I _ hr0) fun e a' w' hq=> ?_
 obtain ⟨s,l,he,hr,hl,v0,⟨d,hfz⟩,hcv,hwk⟩:=hq
 obtain ⟨⟨I',α',h1,h2,h3,_,_,h6⟩,_,h8,h9,_,_⟩:=hr
 obtain ⟨u,e1,e2⟩:=results_sound (P:=P) (fn:=fn) h2 h3 hl
 have hp:BodyPost O.glob w I (fun _=>none) [] 0 (tupA l) s.heap s.nx u w':=⟨⟨I',α',h1,h2,e2,h6⟩,h8⟩
 have hpost:Post O.glob w I α H rid nx v H nx u w':=by
  obtain ⟨⟨I2,α2,q1,q2,q3,q4⟩,hle⟩:=post_closed r hp hfz hcv
  exact ⟨⟨I2,α2,q1,q2,hwk.out _ _ _ _ q3,q4⟩,hle⟩
 rcases he with rfl|rfl<;>exact ⟨h9,u,e1,u,rfl,hpost⟩
theorem fnK_semX {P:Program} {O:Opts} {n:Nat} {A:Aid} {f:FuncId} {args:List AV} {v:AV} (B:Base P O n) (hA:AidOk P O A) (hl:FnLs P O.glob 0 A f) (hcl:closedAll args=true)
  (h:fnK P O n A f args [] 0 (fun u H _=>endX v u H)):SemCall P O.glob f args v:=by
 obtain ⟨fn,c,hfn,hc,hname,hsz,hw⟩:=fnK_body B hA hl h
 refine sem_of_wpX B hfn hc hname hsz hcl fun w I a hr=>wp_mono (hw.out w I _ [] [] a w (fun _ _=>rfl) hr) ?_
 rintro e a' w' ⟨x,s',rfl,h2,hx,l,hl,hq⟩
 refine ⟨s',l, ?_,h2,hl,hq⟩
 rcases hx with rfl|rfl
 ·exact .inl rfl
 ·exact .inr rfl
theorem fnK_semE {P:Program} {O:Opts} {n:Nat} {A:Aid} {f:FuncId} {args:List AV} {v:AV} (B:Base P O n) (hA:AidOk P O A) (hl:FnLs P O.glob 0 A f) (hcl:closedAll args=true)
  (h:fnK P O n A f args [] 0 (fun u _ _=>endV v u)):SemCall P O.glob f args v:=by
 obtain ⟨fn,c,hfn,hc,hname,hsz,hw⟩:=fnK_body B hA hl h
 refine sem_of_wpX B hfn hc hname hsz hcl fun w I a hr=>wp_mono (hw.out w I _ [] [] a w (fun _ _=>rfl) hr) ?_
 rintro e a' w' ⟨x,s',rfl,h2,hx,l,hl,hq⟩
 refine ⟨s',l, ?_,h2,hl,_,(Frz.closed _ hq.1).out,hq.1,hq.2⟩
 rcases hx with rfl|rfl
 ·exact .inl rfl
 ·exact .inr rfl
theorem end_self {v:AV} (h:closedA v=true):endV v v:=⟨h,.refl v⟩
theorem end_eq {u v:AV} (h:u=v) (hc:closedA v=true):endV v u:=by subst h;exact ⟨hc,.refl _⟩
theorem fin_int {n:Nat} {H:Heap} {k:IntKind} {a b:Int} (h:a=b):(∃d,freezeA n H d (.int k a)=some (.int k b))∧closedA (.int k b)=true:=⟨⟨1,by rw[h];rfl⟩,rfl⟩
theorem fin_closed {n:Nat} {H:Heap} {v:AV} (h:closedA v=true):(∃d,freezeA n H d v=some v)∧closedA v=true:=⟨(Frz.closed v h).out,h⟩
theorem CR.up {G:Glob} {w0:World} {I0:Nat→Prop} {α0:Nat→Option Nat} {H0:Heap} {nx0:Nat} {D:List Deferred} {s:St} {a:Act} {w:World} {m:Nat} (h:CR G w0 I0 α0 H0 nx0 D s a w) (hm:s.nx≤m):CR G w0 I0 α0 H0 nx0 D ⟨s.slots,s.heap,m,s.n⟩ a w:=by
 obtain ⟨⟨I,α,ev,rel,hs,_,hf,hnew⟩,h7,h8,h9,h10,h11⟩:=h
 refine ⟨⟨I,α,ev,rel,hs,fun i hi=>absurd hi (Nat.not_lt_zero i),fun id hid=>hf id (Nat.le_trans hm hid),fun id hid=> ?_⟩,Nat.le_refl _,Nat.le_trans h8 hm,h9,h10,h11⟩
 rcases hnew id hid with h|h
 ·exact .inl h
 ·exact .inr ⟨h.1,Nat.lt_of_lt_of_le h.2 hm⟩
def letsG (m:Nat) (V:View) (s:St):Prop:=oblB (Nat.beq V.n s.n&&Nat.ble s.nx V.nx) (frzSlots m s.heap s.slots.get (V.slots++V.refs)∧frzHeap m s.heap V.heap)
theorem letsG_says {G:Glob} {nx0 m:Nat} {V:View} {s:St} (h:letsG m V s):Says2 G nx0 s V.st:=by
 obtain ⟨hb,h1,h2⟩:=oblB_iff.1 h
 rw[Bool.and_eq_true] at hb
 intro w0 I0 α0 H0 D a w _ hr
 refine (hr.up (Nat.le_of_ble_eq_true hb.2)).freeze m (beq_iff.1 hb.1) rfl (fun k v hv=>frzSlots_at h1 k v (sl_get hv)) fun i b hi=> ?_
 obtain ⟨wh,hm⟩:=heap2_mem hi
 exact frzHeap_at h2 i b wh hm
def letC (m:Nat) (V:View):St→(St→Prop)→Prop:=fun s K=>letsG m V s∧K V.st
def oneC (r0:Nat) (C:St→(St→Prop)→Prop):Nat→Option (St→(St→Prop)→Prop):=fun r=>match Nat.beq r r0 with
 |true=>some C
 |false=>none
section
variable {P:Program} {G:Glob}
theorem fsl_index {t e:TypeId} {sz i:Nat} {f:Bool} {l:List AV} {v:AV} (h1:P.underlying t=some (.slice e)) (h2:sizeA P e=some sz) (hv:l[i]? =some v) (hs:v.cells.length=sz):indexAddrA P t (.fsl f l) (.int .i64 (.ofNat i))=some (.fptr v.cells 0):=by
 have h5:Nat.beq (lenN v.cells) sz=true:=by rw[beq_iff,lenN_eq,hs]
 simp only[indexAddrA,natOf,h1,h2,getN_eq,hv,h5,if_true,Option.bind_eq_bind,Option.bind_some]
end
end Go.Proofs.Abs
/- Objects as values. -/
namespace Go.Proofs.Abs
open Go
noncomputable section
structure Dt where
 has:Bool
 t:Int
structure Lk where
 ty:Int
 id:List UInt8
structure Cu where
 name:List UInt8
 text:List UInt8
structure Ob where
 id:List UInt8
 ty:Int
 alg:Int
 len:Int
 mask:Int
 mat:List UInt8
 st:Int
 d0:Dt
 d1:Dt
 d2:Dt
 d3:Dt
 d4:Dt
 d5:Dt
 d6:Dt
 d7:Dt
 d8:Dt
 d9:Dt
 why:Int
 msg:List UInt8
 names:List (List UInt8)
 links:List Lk
 cust:List Cu
 lh:Bool
 lt:Int
 lc:Int
 lu:Int
 arch:Bool
def lkA (l:Lk):AV:= .agg [.int .i64 l.ty,.str l.id]
def cuA (c:Cu):AV:= .agg [.str c.name,.str c.text]
def matA (o:Ob):AV:= .fsl false (toBytes o.mat)
def namA (o:Ob):AV:= .fsl false (o.names.map .str)
def lnkA (o:Ob):AV:= .fsl false (o.links.map lkA)
def cusA (o:Ob):AV:= .fsl false (o.cust.map cuA)
def obF (o:Ob) (M N L C:AV):List AV:=[.str o.id,.int .i64 o.ty,.int .i64 o.alg,.int .i64 o.len,.int .i64 o.mask,M,.int .i64 o.st,
 .bool o.d0.has,.int .i64 o.d0.t,.bool o.d1.has,.int .i64 o.d1.t,.bool o.d2.has,.int .i64 o.d2.t,.bool o.d3.has,.int .i64 o.d3.t,.bool o.d4.has,.int .i64 o.d4.t,
 .bool o.d5.has,.int .i64 o.d5.t,.bool o.d6.has,.int .i64 o.d6.t,.bool o.d7.has,.int .i64 o.d7.t,.bool o.d8.has,.int .i64 o.d8.t,.bool o.d9.has,.int .i64 o.d9.t,
 .int .i64 o.why,.str o.msg,N,L,C,.bool o.lh,.int .i64 o.lt,.int .i64 o.lc,.int .i64 o.lu,.bool o.arch]
def obC (o:Ob):List AV:=obF o (matA o) (namA o) (lnkA o) (cusA o)
def obA (o:Ob):AV:= .agg (obC o)
theorem closed_strs:∀l:List (List UInt8),closedAll (l.map .str)=true
 |[]=>rfl
 |s::t=>by simp only[List.map_cons,closedAll,closed_strs t,Bool.and_true];rfl
theorem closed_lks:∀l:List Lk,closedAll (l.map lkA)=true
 |[]=>rfl
 |s::t=>by simp only[List.map_cons,closedAll,closed_lks t,Bool.and_true];rfl
theorem closed_cus:∀l:List Cu,closedAll (l.map cuA)=true
 |[]=>rfl
 |s::t=>by simp only[List.map_cons,closedAll,closed_cus t,Bool.and_true];rfl
theorem closed_mat (o:Ob):closedA (matA o)=true:=closedAll_toBytes _
theorem closed_nam (o:Ob):closedA (namA o)=true:=closed_strs _
theorem closed_lnk (o:Ob):closedA (lnkA o)=true:=closed_lks _
theorem closed_cusA (o:Ob):closedA (cusA o)=true:=closed_cus _
theorem closed_obC (o:Ob):closedAll (obC o)=true:=by
 simp only[obC,obF,closedAll,closedA,closed_mat,closed_nam,closed_lnk,closed_cusA,Bool.and_self]
theorem closed_ob (o:Ob):closedA (obA o)=true:=closed_obC o
theorem one_obC (o:Ob):allOne (obC o)=true:=by
 simp only[obC,obF,allOne,one_str,one_int,one_bool,matA,namA,lnkA,cusA,one_fsl,Bool.and_self]
end
end Go.Proofs.Abs
/- Calls with closed arguments, run by themselves, whose answers say enough; bodies that say less. -/
namespace Go.Proofs.Abs
open Go
noncomputable section
def ansQ (P:Program) (O:Opts) (n:Nat) (f:FuncId) (args:List AV):Option AV:=
 match runBodyQ P O (callQ P O n) f args [] 0 with
 |some (v,h',_)=>freezeA 0 h' 40 v
 |none=>none
section
variable {P:Program} {O:Opts} {n:Nat} {f:FuncId} {args:List AV} {v r:AV}
theorem ansQ_sem (hm:P.follows .mixedOrders=true) (hsum:∀f args v,O.summ f args=some v→SemCall P O.glob f args v) (hg:∀g l,O.glob g=some l→closedAll l=true) (hcx:CallOk P O.glob O.cx∧CallLoc O.cx)
  (hcl:closedAll args=true) (h:ansQ P O n f args=some v) (hv:closedA v=true):SemCall P O.glob f args v:=by
 unfold ansQ at h
 rw[runQ_eq] at h
 split at h
 ·rename_i v0 h0 m0 hr
  obtain ⟨hc,hl⟩:=calls_sound (P:=P) (O:=O) hm hsum hg hcx n
  refine ⟨?_⟩
  intro w I α H rid nx vs r ha hrid hlt hf
  obtain ⟨e1,e2⟩:=body_sound hm hc hl hr (rel_empty hg r) (repl_closed ha hcl) (fun _ _=>rfl)
  rw[e1]
  exact Calls.mono e2 fun e w' ⟨u,h1,h2⟩=>⟨u,h1,post_closed r h2 h hv⟩
 ·cases h
end
def WkB:Blk→Blk→Prop
 | .cells l,.cells l'=>WkL l l'
 |b,b'=>b=b'
theorem WkB.rel {w:World} {I:Nat→Prop} {α:Nat→Option Nat} {b:Nat} {x y:Blk} (h:WkB x y) (r:BRel w I α b x):BRel w I α b y:=by
 cases x with
 | cells l=>cases y with
  |cells l'=>
   obtain ⟨c,e,h1,h2,h3⟩:=r
   have h:WkL l l':=h
   exact ⟨c,e,h1,by rw[←h.len];exact h2,by rw[←h.len];exact h.out _ _ _ _ h3⟩
  |_=>cases h
 |_=>cases y<;>first|(cases h;done)|(cases h;exact r)
def endH (k:Nat) (h:Heap):Heap→Prop
 |[]=>True
 |(i,some b)::t=>(Nat.blt i k=true∧∃b0 b1,hget h i=some b0∧FrzB k h b0 b1∧WkB b1 b)∧endH k h t
 |(_,none)::_=>False
theorem endH_at {k:Nat} {h:Heap}:∀ {H2:Heap},endH k h H2→∀i b,hget H2 i=some b→i<k∧∃b0 b1,hget h i=some b0∧FrzB k h b0 b1∧WkB b1 b
 |[],_,i,b,hb=>by cases hb
 | (j,some c)::t,he,i,b,hb=>by
  simp only[hget] at hb
  split at hb
  ·rename_i hj
   have hj:=beq_iff.1 hj
   subst hj
   cases hb
   exact ⟨blt_iff.1 he.1.1,he.1.2⟩
  ·exact endH_at he.2 i b hb
 |(_,none)::_,he,_,_,_=>he.elim
def EndB (k:Nat) (v:AV) (H2:Heap) (nx2:Nat) (u:AV) (h:Heap) (m:Nat):Prop:=Nat.ble m nx2=true∧(∃r,Frz k h u r∧Wk r v)∧endH k h H2
theorem bodyPost_end {G:Glob} {w w':World} {I:Nat→Prop} {α:Nat→Option Nat} {H hE H2:Heap} {nx m nx2 k:Nat} {u v:AV} {x:Value} (h:BodyPost G w I α H nx u hE m x w') (he:EndB k v H2 nx2 u hE m):BodyPost G w I α H nx v H2 nx2 x w':=by
 obtain ⟨hm,⟨r,hfr,hwk⟩,hH⟩:=he
 have hm:=Nat.le_of_ble_eq_true hm
 obtain ⟨⟨I',α',ev,rel,hrep,hnew⟩,hle⟩:=h
 have hlive:∀i,hget H2 i≠none→i<k∧hget hE i≠none:=fun i hi=>by
  cases hb:hget H2 i with
  |none=>exact absurd hb hi
  |some b=>
   obtain ⟨h1,b0,b1,h2,_⟩:=endH_at hH i b hb
   exact ⟨h1,by rw[h2];simp⟩
 have hown:∀b,Owned α' H2 b→Owned α' hE b:=fun b ⟨i,h1,h2⟩=>⟨i,(hlive i h1).2,h2⟩
 refine ⟨⟨Frozen I' α' hE k,α',⟨ev.os,fun b hb=> .inl (ev.I_mono b hb),ev.α_mono,ev.size,ev.frame,ev.shape,fun b hb=> ?_,fun b hb=>ev.own b (hown b hb)⟩, ?_, ?_,fun id hid=> ?_⟩,Nat.le_trans hle hm⟩
 ·rcases hb with hb|⟨id,_,h2,h3⟩
  ·exact ev.Inew b hb
  ·rcases ev.own b ⟨id,h2,h3⟩ with h|h
   ·exact .inr (.inl h)
   ·exact .inr (.inr h)
 ·exact
  {live:=fun i blk hi=>by
    obtain ⟨hmk,b0,b1,e2,e3,e4⟩:=endH_at hH i blk hi
    obtain ⟨b,k1,k2,k3⟩:=rel.live i b0 e2
    refine ⟨b,k1, ?_,e4.rel (frzB_rep rel e3 k3)⟩
    rintro (hb|⟨id,h1,h2,h3⟩)
    ·exact k2 hb
    ·have:=rel.inj id i b h2 (by rw[e2];simp) h3 k1
     omega
   inj:=fun i i' b h1 h2 h3 h4=>rel.inj i i' b (hlive i h1).2 (hlive i' h2).2 h3 h4
   imm:=fun b hb=>by
    rcases hb with hb|⟨id,_,_,h3⟩
    ·exact rel.imm b hb
    ·exact rel.dom id b h3
   dom:=rel.dom
   glob:=fun g l hgl=>by
    obtain ⟨h1,h2⟩:=rel.glob g l hgl
    refine ⟨.inl h1,fun j x hx=> ?_⟩
    obtain ⟨y,e1,e2⟩:=h2 j x hx
    exact ⟨y,e1,e2.mono (fun _ h=> .inl h) (fun _ _ h=>h) (fun _ _ _=>rfl) (fun _ _ _=>rfl)⟩}
 ·obtain ⟨d,hfr⟩:=hfr
  exact hwk.out _ _ _ _ (freeze_sound rel k d _ _ _ hfr hrep)
 ·rcases hnew id hid with h|h
  ·exact .inl h
  ·exact .inr ⟨h.1,Nat.lt_of_lt_of_le h.2 hm⟩
theorem fnK_bodyX {P:Program} {O:Opts} {n:Nat} {A:Aid} {f:FuncId} {args:List AV} {H:Heap} {nx k:Nat} {v:AV} {H2:Heap} {nx2:Nat} (B:Base P O n) (hA:AidOk P O A) (hl:FnLs P O.glob nx A f)
  (h:fnK P O n A f args H nx (fun u h m=>EndB k v H2 nx2 u h m)):BodySem P O.glob f args H nx v H2 nx2:=by
 obtain ⟨fn,c,hfn,hc,hname,hsz,hw⟩:=fnK_body B hA hl h
 intro w I α vs r ha hf
 rw[Bool.and_eq_true,Nat.ble_eq,Nat.ble_eq,lenN_eq] at hsz
 refine ⟨?_, ?_⟩
 ·unfold callFunc
  simp only[Sem.run_bind,run_program,Result.andThen_ok,hfn,hname,hc,Bool.false_eq_true,if_false,Option.isNone_some,Sem.run_pure]
 ·refine calls_of_wp hfn hc ?_
  have hvs:args.length=vs.size:=by rw[ha.1];simp
  have hr0:CR O.glob w I α H nx [] ⟨argsT args 0 .tip,H,nx,fn.ntmps⟩ {tmps:=vs++Array.replicate (fn.ntmps-vs.size) undef,defers:=[]} w:=
   ⟨⟨I,α,.refl,r,slots_args ha (by omega),fun i hi=>absurd hi (Nat.not_lt_zero i),hf,fun id h=> .inl h⟩,Nat.le_refl _,Nat.le_refl _,rfl,by simp;omega,hsz.2⟩
  refine wp_mono (hw.out w I α H [] _ w hf hr0) ?_
  rintro e a' w' ⟨x,s,rfl,hr,hx,l,hl,hq⟩
  obtain ⟨⟨I',α',h1,h2,h3,_,_,h6⟩,_,h8,h9,_,_⟩:=hr
  obtain ⟨u,e1,e2⟩:=results_sound (P:=P) (fn:=fn) h2 h3 hl
  have hp:BodyPost O.glob w I α H nx (tupA l) s.heap s.nx u w':=⟨⟨I',α',h1,h2,e2,h6⟩,h8⟩
  rcases hx with rfl|rfl<;>exact ⟨h9,u,e1,u,rfl,bodyPost_end hp hq⟩
theorem bodySem_sem {P:Program} {G:Glob} {f:FuncId} {args:List AV} {u v:AV} {H1:Heap} {m:Nat} (hg:∀g l,G g=some l→closedAll l=true) (hcl:closedAll args=true) (h:BodySem P G f args [] 0 u H1 m) (he:endX v u H1):SemCall P G f args v:=by
 refine ⟨fun w I α H rid nx vs r ha hrid hlt hf=> ?_⟩
 obtain ⟨e1,e2⟩:=h w I (fun _=>none) vs (rel_empty hg r) (repl_closed ha hcl) (fun _ _=>rfl)
 obtain ⟨v0,⟨d,hfz⟩,hcv,hwk⟩:=he
 rw[e1]
 refine Calls.mono e2 fun e w' ⟨x,h1,h2⟩=>⟨x,h1, ?_⟩
 obtain ⟨⟨I2,α2,q1,q2,q3,q4⟩,hle⟩:=post_closed r h2 hfz hcv
 exact ⟨⟨I2,α2,q1,q2,hwk.out _ _ _ _ q3,q4⟩,hle⟩
end
end Go.Proofs.Abs
/- States with blocks that may be there or not. -/
namespace Go.Proofs.Abs
open Go
noncomputable section
def closedOB:Option Blk→Prop
 |none=>True
 |some (.cells l)=>closedAll l=true
 |_=>False
structure ClosedOB (b:Option Blk):Prop where
 out:closedOB b
def optOk (lk:List (Nat × Nat)) (h:Heap):Heap→Prop
 |[]=>True
 |(i,ob)::t=>(match lookN lk i with
  |some j=>hget h j=ob∧ClosedOB ob
  |none=>False)∧optOk lk h t
def stO (V:View) (opt:Heap):St:=⟨sl (V.slots++V.refs),V.heap.heap++opt,V.nx,V.n⟩
def seesO (nx0:Nat) (lk:List (Nat × Nat)) (V:View) (opt:Heap) (s:St):Prop:=seesK nx0 lk V s∧optOk lk s.heap opt
theorem hget_append {a b:Heap} {i:Nat} {x:Blk} (h:hget (a++b) i=some x):hget a i=some x∨hget b i=some x:=by
 induction a with
 |nil=>exact .inr h
 | cons p t ih=>
  obtain ⟨j,c⟩:=p
  cases he:Nat.beq j i with
  |true=>
   simp only[List.cons_append,hget,he] at h
   exact .inl (by simp only[hget,he];exact h)
  |false=>
   simp only[List.cons_append,hget,he] at h
   rcases ih h with h|h
   ·exact .inl (by simp only[hget,he];exact h)
   ·exact .inr h
theorem optOk_at {lk:List (Nat × Nat)} {h:Heap}:∀ {opt:Heap},optOk lk h opt→∀i b,hget opt i=some b→∃j b1,lookN lk i=some j∧hget h j=some b1∧RenB lk b b1
 |[],_,_,_,hb=>by cases hb
 | (i',ob)::t,ho,i,b,hb=>by
  simp only[hget] at hb
  split at hb
  ·rename_i he
   have he:=beq_iff.1 he
   subst he
   have h1:=ho.1
   split at h1
   ·rename_i j hj
    subst hb
    refine ⟨j,b,hj,h1.1, ?_⟩
    have hc:=h1.2.out
    cases b with
    |cells l=>exact RenL.same lk hc
    |_=>exact hc.elim
   ·exact h1.elim
  ·exact optOk_at ho.2 i b hb
theorem seesO_says {G:Glob} {nx0:Nat} {lk:List (Nat × Nat)} {V:View} {opt:Heap} {s:St} (hg:∀g l,G g=some l→closedAll l=true) (h:seesO nx0 lk V opt s):Says2 G nx0 s (stO V opt):=by
 obtain ⟨h,ho⟩:=h
 obtain ⟨hb,h0,h1,h2⟩:=oblB_iff.1 h
 simp only[lkOk,Bool.and_eq_true] at hb
 obtain ⟨⟨b1,b2,b3⟩,b4,b5⟩:=hb
 intro w0 I0 α0 H0 D a w hα hr
 refine hr.turnIn lk hg hα (beq_iff.1 b5) (fun k v hv=>by
   rcases List.mem_append.1 (sl_get hv) with hm|hm
   ·exact seeWhole_at h0 k v hm
   ·exact seeSlots_at h1 k v hm) (fun i b hi=> ?_) (noDup_iff b1) (fun i hi=> ?_) (lowLk_iff b4) (Nat.le_of_ble_eq_true b3)
 ·rcases hget_append hi with hi|hi
  ·obtain ⟨wh,hm⟩:=heap2_mem hi
   exact seeHeap_at h2 i b wh hm
  ·exact optOk_at ho i b hi
 ·cases hl:lookN lk i with
  |none=>rfl
  |some j=>
   have:=allLt_iff b2 i (List.mem_map.2 ⟨_,lookN_mem hl,rfl⟩)
   have hi:V.nx≤i:=hi
   omega
def roundO (nx0:Nat) (lk:List (Nat × Nat)) (V:View) (opt:Heap) (N:Prop) (lk':List (Nat × Nat)) (F:View) (opt':Heap) (Q:AExit→St→Prop):AExit→St→Prop:=fun e s=>match e with
 | .normal=>seesO nx0 lk V opt s∧N
 |e=>seesO nx0 lk' F opt' s∧Q e (stO F opt')
theorem ALp.roundO {P:Program} {O:Opts} {n:Nat} {nx0:Nat} {Q:AExit→St→Prop} {body:Code} {A:Aid} {s0 s2:St} {V1 F:View} {opt opt':Heap} {lk lk':List (Nat × Nat)} (B:Base P O n) (hA:AidOk P O A) (hls:LsOk P O.glob nx0 A body)
  (hM:Says2 O.glob nx0 (stO V1 opt) s2) (h:wpK P O n A body s0 (roundO nx0 lk V1 opt (ALp P O.glob nx0 body s2 Q) lk' F opt' Q)):ALp P O.glob nx0 body s0 Q:=by
 have h:=wpK_ok B hA body _ _ hls h
 by_cases hN:ALp P O.glob nx0 body s2 Q
 ·obtain ⟨k,hk⟩:=hN
  refine ⟨k+1,h.saysEnd fun e s hq=> ?_⟩
  cases e with
  |normal=>exact ⟨_,(seesO_says B.glob hq.1).trans hM,hk⟩
  |exit i=>exact ⟨_,seesO_says B.glob hq.1,hq.2⟩
  |ret=>exact ⟨_,seesO_says B.glob hq.1,hq.2⟩
 ·refine ⟨1,h.saysEnd fun e s hq=> ?_⟩
  cases e with
  |normal=>exact absurd hq.2 hN
  |exit i=>exact ⟨_,seesO_says B.glob hq.1,hq.2⟩
  |ret=>exact ⟨_,seesO_says B.glob hq.1,hq.2⟩
theorem AWp.seenO {P:Program} {G:Glob} {nx0:Nat} {lk:List (Nat × Nat)} {V:View} {opt:Heap} {s:St} {Q:AExit→St→Prop} {body:Code} (hg:∀g l,G g=some l→closedAll l=true) (hs:seesO nx0 lk V opt s) (h:ALp P G nx0 body (stO V opt) Q):AWp P G nx0 (.loop body) s Q:=(h.says (seesO_says hg hs)).loop
end
end Go.Proofs.Abs
/- States that say less: fewer blocks. -/
namespace Go.Proofs.Abs
open Go
noncomputable section
theorem Says2.sub {G:Glob} {nx0:Nat} {s s2:St} (hs:s2.slots=s.slots) (hh:∀i b,hget s2.heap i=some b→hget s.heap i=some b) (hnx:s2.nx=s.nx) (hn:s2.n=s.n):Says2 G nx0 s s2:=by
 intro w0 I0 α0 H0 D a w hα h
 obtain ⟨⟨I,α,ev,rel,hsl,h4,hf,hnew⟩,h7,h8,h9,h10,h11⟩:=h
 have hne:∀i,hget s2.heap i≠none→hget s.heap i≠none:=fun i h=>by
  cases hi:hget s2.heap i with
  |none=>exact absurd hi h
  |some b=>rw[hh i b hi];simp
 refine ⟨⟨I,α,⟨ev.os,ev.I_mono,ev.α_mono,ev.size,ev.frame,ev.shape,ev.Inew,fun b ⟨i,h1,h2⟩=>ev.own b ⟨i,hne i h1,h2⟩⟩, ?_, ?_,fun i hi=>absurd hi (Nat.not_lt_zero i),fun id hid=>hf id (by rw[←hnx];exact hid),fun id hid=> ?_⟩,Nat.le_refl _,by rw[hnx];exact h8,h9,by rw[hn];exact h10,by rw[hn];exact h11⟩
 ·exact ⟨fun i blk hi=>rel.live i blk (hh i blk hi),fun i i' b h1 h2=>rel.inj i i' b (hne i h1) (hne i' h2),rel.imm,rel.dom,rel.glob⟩
 ·rw[hs];exact hsl
 ·rw[hnx];exact hnew id hid
end
end Go.Proofs.Abs
/- What a body comes to, under other numbers: of the blocks that it is handed, and of those that are new. -/
namespace Go.Proofs.Abs
open Go
def flipLk:List (Nat × Nat)→List (Nat × Nat)
 |[]=>[]
 |(a,b)::t=>(b,a)::flipLk t
theorem flip_look:∀ {lk:List (Nat × Nat)} {i j:Nat},(lk.map (·.1)).Nodup→(lk.map (·.2)).Nodup→(lookN lk i=some j↔lookN (flipLk lk) j=some i)
 |[],i,j,_,_=>by simp[lookN,flipLk]
 | (a,b)::t,i,j,h1,h2=>by
  simp only[List.map_cons,List.nodup_cons] at h1 h2
  have ih:=flip_look (lk:=t) (i:=i) (j:=j) h1.2 h2.2
  simp only[lookN,flipLk]
  cases hi:Nat.beq a i with
  | true=>
   have hi:=beq_iff.1 hi
   subst hi
   cases hj:Nat.beq b j with
   |true=>have hj:=beq_iff.1 hj;subst hj;simp
   | false=>
    simp only
    constructor
    ·intro h
     cases h
     rw[beq_iff.2 rfl] at hj;cases hj
    ·intro h
     have:=ih.2 h
     exact absurd (List.mem_map.2 ⟨_,lookN_mem this,rfl⟩) h1.1
  | false=>
   cases hj:Nat.beq b j with
   | true=>
    have hj:=beq_iff.1 hj
    subst hj
    simp only
    constructor
    ·intro h
     have:=ih.1 h
     exact absurd (List.mem_map.2 ⟨_,lookN_mem h,rfl⟩) h2.1
    ·intro h
     cases h
     rw[beq_iff.2 rfl] at hi;cases hi
   |false=>exact ih
section
variable {P:Program} {G:Glob} {f:FuncId} {args args2:List AV} {v v2:AV} {H H' H2 H2':Heap} {nx nx' nx2 nx2':Nat} {lk:List (Nat × Nat)}
theorem BodySem.ren (hg:∀g l,G g=some l→closedAll l=true) (h:BodySem P G f args H nx v H' nx')
  (h1:(lk.map (·.1)).Nodup) (h2:(lk.map (·.2)).Nodup) (hlo:∀p∈lk,p.1<nx∨(nx2≤p.2∧p.2<nx2')) (hA:RenL lk args args2)
  (hH:∀i b,hget H i=some b→∃j b2,lookN lk i=some j∧hget H2 j=some b2∧RenB lk b b2)
  (hV:RenV (flipLk lk) v2 v) (hH':∀j b2,hget H2' j=some b2→∃i b,lookN (flipLk lk) j=some i∧hget H' i=some b∧RenB (flipLk lk) b2 b)
  (hm:nx2≤nx2'):BodySem P G f args2 H2 nx2 v2 H2' nx2':=by
 intro w I α vs r ha hf
 have rb:Rel G w I (fun i=>(lookN lk i).bind α) H:=
  {live:=fun i blk hi=>by
    obtain ⟨j,b2,k1,k2,k3⟩:=hH i blk hi
    obtain ⟨b,q1,q2,q3⟩:=r.live j b2 k2
    exact ⟨b,by simp[k1,q1],q2,bRel_ren k3 q3⟩
   inj:=fun i i' b g1 g2 g3 g4=>by
    cases hi:hget H i with
    |none=>exact absurd hi g1
    | some blk=>
     cases hi':hget H i' with
     |none=>exact absurd hi' g2
     |some blk'=>
      obtain ⟨j,b1,k1,k2,_⟩:=hH i blk hi
      obtain ⟨j',b1',k1',k2',_⟩:=hH i' blk' hi'
      have hj:j=j':=r.inj j j' b (by rw[k2];simp) (by rw[k2'];simp) (by simpa [k1] using g3) (by simpa [k1'] using g4)
      subst hj
      exact lookN_inj h2 k1 k1'
   imm:=r.imm
   dom:=fun i b hb=>by
    cases hl:lookN lk i with
    |none=>simp[hl] at hb
    |some j=>exact r.dom j b (by simpa [hl] using hb)
   glob:=fun g l hgl=>by
    obtain ⟨g1,g2⟩:=r.glob g l hgl
    refine ⟨g1,fun j x hx=> ?_⟩
    obtain ⟨y,k1,k2⟩:=g2 j x hx
    exact ⟨y,k1,rep_closed k2 (closed_at (hg g l hgl) hx)⟩}
 have own1:∀b,Owned (fun i=>(lookN lk i).bind α) H b→Owned α H2 b:=fun b ⟨i,g1,g2⟩=>by
  cases hi:hget H i with
  |none=>exact absurd hi g1
  |some blk=>
   obtain ⟨j,b2,k1,k2,_⟩:=hH i blk hi
   exact ⟨j,by rw[k2];simp,by simpa [k1] using g2⟩
 obtain ⟨e1,e2⟩:=h w I (fun i=>(lookN lk i).bind α) vs rb (repL_ren hA ha) (fun id hid=>by
  cases hl:lookN lk id with
  |none=>rfl
  |some j=>
   rcases hlo _ (lookN_mem hl) with h|h
   ·exact absurd h (by simp only;omega)
   ·exact hf j h.1)
 refine ⟨e1,e2.mono ?_⟩
 rintro e w' ⟨u,rfl,⟨⟨I',α',ev,rel,rep,hnew⟩,_⟩⟩
 have sub:∀id b,((lookN (flipLk lk) id).bind α')=some b→(match lookN (flipLk lk) id with|some i=>α' i|none=>α id)=some b:=fun id b hb=>by
  cases hl:lookN (flipLk lk) id with
  |none=>rw[hl] at hb;cases hb
  |some j=>simpa [hl] using hb
 have rex:∀ {a:AV} {x:Value},Rep w' I' (fun i=>(lookN (flipLk lk) i).bind α') a x→Rep w' I' (fun id=>match lookN (flipLk lk) id with|some i=>α' i|none=>α id) a x:=fun hr=>hr.mono (fun _ h=>h) sub (fun _ _ _=>rfl) (fun _ _ _=>rfl)
 have bex:∀ {b:Nat} {blk:Blk},BRel w' I' (fun i=>(lookN (flipLk lk) i).bind α') b blk→BRel w' I' (fun id=>match lookN (flipLk lk) id with|some i=>α' i|none=>α id) b blk:=fun {b blk} hb=>by
  cases blk with
  |cells l=>obtain ⟨c,e,h1,h2,h3⟩:=hb;exact ⟨c,e,h1,h2,h3.1,fun i x y hx hy=>rex (h3.2 i x y hx hy)⟩
  |siter s p=>exact hb
  |mapb c s es=>obtain ⟨en,h1,h2,h4,h3⟩:=hb;exact ⟨en,h1,h2,h4,fun i x y hx hy=>⟨rex (h3 i x y hx hy).1,rex (h3 i x y hx hy).2⟩⟩
  |miter q a b c=>obtain ⟨mb,h1,h2⟩:=hb;exact ⟨mb,sub _ _ h1,h2⟩
 have own2:∀b,Owned (fun id=>match lookN (flipLk lk) id with|some i=>α' i|none=>α id) H2' b→Owned α' H' b:=fun b ⟨j,g1,g2⟩=>by
  cases hi:hget H2' j with
  |none=>exact absurd hi g1
  |some blk=>
   obtain ⟨i,b1,k1,k2,_⟩:=hH' j blk hi
   exact ⟨i,by rw[k2];simp,by simpa [k1] using g2⟩
 refine ⟨u,rfl,⟨I',fun id=>match lookN (flipLk lk) id with|some i=>α' i|none=>α id, ?_, ?_, ?_, ?_⟩,hm⟩
 ·refine ⟨ev.os,ev.I_mono,fun id b hb=> ?_,ev.size,fun b hb hn=>ev.frame b hb fun hc=>hn (own1 b hc),ev.shape,fun b hb=> ?_,fun b hb=> ?_⟩
  ·cases hl:lookN (flipLk lk) id with
   |none=>simpa only[hl] using hb
   | some i=>
    simp only
    exact ev.α_mono i b (by
     have:=(flip_look h1 h2).2 hl
     simpa [this] using hb)
  ·rcases ev.Inew b hb with h|h|h
   ·exact .inl h
   ·exact .inr (.inl h)
   ·exact .inr (.inr (own1 b h))
  ·rcases ev.own b (own2 b hb) with h|h
   ·exact .inl h
   ·exact .inr (own1 b h)
 ·exact
  {live:=fun j blk hj=>by
    obtain ⟨i,b1,k1,k2,k3⟩:=hH' j blk hj
    obtain ⟨b,q1,q2,q3⟩:=rel.live i b1 k2
    exact ⟨b,by simpa [k1] using q1,q2,bex (bRel_ren k3 q3)⟩
   inj:=fun j j' b g1 g2 g3 g4=>by
    cases hj:hget H2' j with
    |none=>exact absurd hj g1
    | some blk=>
     cases hj':hget H2' j' with
     |none=>exact absurd hj' g2
     |some blk'=>
      obtain ⟨i,b1,k1,k2,_⟩:=hH' j blk hj
      obtain ⟨i',b1',k1',k2',_⟩:=hH' j' blk' hj'
      have hi:i=i':=rel.inj i i' b (by rw[k2];simp) (by rw[k2'];simp) (by simpa [k1] using g3) (by simpa [k1'] using g4)
      subst hi
      have m1:=(flip_look h1 h2).2 k1
      have m2:=(flip_look h1 h2).2 k1'
      rw[m1] at m2
      exact Option.some.inj m2
   imm:=rel.imm
   dom:=fun j b hb=>by
    cases hl:lookN (flipLk lk) j with
    |none=>exact Nat.lt_of_lt_of_le (r.dom j b (by simpa only[hl] using hb)) ev.size
    |some i=>exact rel.dom i b (by simpa only[hl] using hb)
   glob:=fun g l hgl=>by
    obtain ⟨g1,g2⟩:=rel.glob g l hgl
    refine ⟨g1,fun j x hx=> ?_⟩
    obtain ⟨y,k1,k2⟩:=g2 j x hx
    exact ⟨y,k1,rep_closed k2 (closed_at (hg g l hgl) hx)⟩}
 ·exact rex (rep_ren hV rep)
 ·intro j hj
  cases hl:lookN (flipLk lk) j with
  |none=>exact .inl (by simpa only[hl] using hj)
  | some i=>
   simp only[hl] at hj
   rcases hnew i hj with h|h
   ·left
    intro h0
    have:=(flip_look h1 h2).2 hl
    exact h (by simp[this,h0])
   ·rcases hlo _ (lookN_mem ((flip_look h1 h2).2 hl)) with h'|h'
    ·exact absurd h.1 (by simpa using h')
    ·exact .inr h'
end
end Go.Proofs.Abs
