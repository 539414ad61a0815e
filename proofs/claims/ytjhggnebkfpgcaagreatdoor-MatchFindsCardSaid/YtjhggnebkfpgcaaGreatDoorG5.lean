import Derived.Test.YtjhggnebkfpgcaaGreatDoorG4
import Derived.OpenShut
import Derived.LaidMore
namespace Go.Proofs.Abs
open Go
noncomputable section
def aC (b:Bool) (K:Prop):Prop:=match b with
 |true=>K
 |false=>False
def ak (b:Bool) (T F:Prop):Prop:=match b with
 |true=>T
 |false=>F
inductive ES where
 |eff (e:Eff)
 |obl (b:Bool) (e:Eff)
 |app (b:Bool) (i:Nat) (k:List AV→Bool × List AV) (v:Nat→AV)
 |pick (b:Bool) (x y:Option AV)
 |put (b:Bool) (i:Nat) (k:List AV→Bool × List AV) (v:AV)
def ES.ok (oe:Option Eff):ES→Prop
 | .eff e=>oe=some e
 | .obl b e=>b=true→oe=some e
 | .app b i k v=>b=true→∃kk,oe=some (.repl i kk)∧∀l,(k l).1=true→kk (.cells l)=some (.cells (k l).2,v)
 | .pick b x y=>(b=true→oe=bW x)∧(b=false→oe=bW y)
 | .put b i k v=>b=true→∃kk,oe=some (.upd i kk)∧∀l,(k l).1=true→kk (.cells l)=some (.cells (k l).2,v)
inductive ez where
 |plain
 |ans (a:mU)
 |el (v:AV)
 |ld (v:AV)
 |res (r:AV)
def cJ:Int→Bool
 | .ofNat _=>true
 |_=>false
def kj:AV→Option (Bool × Nat)
 | .int _ n=>some (cJ n,n.toNat)
 |_=>none
def oR:Option AV→Option (Bool × Option Nat)
 |none=>some (true,none)
 |some v=>match kj v with
  |some (b,n)=>some (b,some n)
  |none=>none
def oT (es:List AV):List UInt8:=(e9 es).getD []
def rJ (l:List AV) (o:Nat) (vs:List AV):List AV:=l.take o++(vs++l.drop (o+ab vs))
def yv (s:List UInt8) (i:Nat):UInt8:=s[i]?.getD 0
section
variable (P:Program)
def eqF (eq:TypeId→AV→AV→Option Bool):List Field→List AV→List AV→Option Bool
 |[],_,_=>some true
 | f::fs,xs,ys=>match f.name== "_" with
  |true=>eqF eq fs xs ys
  | false=>match bh P f.type xs f.offset,bh P f.type ys f.offset with
   |some a,some b=>match eq f.type a b,eqF eq fs xs ys with
    |some p,some q=>some (p&&q)
    |_,_=>none
   |_,_=>none
def rK (eq:TypeId→AV→AV→Option Bool) (e:TypeId) (sz:Nat) (xs ys:List AV):List Nat→Option Bool
 |[]=>some true
 | i::is=>match bh P e xs (i*sz),bh P e ys (i*sz) with
  |some a,some b=>match eq e a b,rK eq e sz xs ys is with
   |some p,some q=>some (p&&q)
   |_,_=>none
  |_,_=>none
def mZ:Nat→TypeId→AV→AV→Option Bool
 |0,_,_,_=>none
 | d+1,t,x,y=>match x,y with
  | .agg xs,.agg ys=>match P.underlying t with
   |some (.struct fs)=>match P.stoodInHeld t with
    |true=>none
    |false=>eqF P (mZ d) fs.toList xs ys
   |some (.array n e)=>match bJ P e with
    |some sz=>rK P (mZ d) e sz xs ys (List.range n)
    |none=>none
   |_=>none
  |x,y=>dX P (d+1) t x y
def lm (sz:Nat) (x:AV):Option (Bool × Nat × List AV):=match x with
 | .fsl _ es=>some (bo sz es,ab es,flat es)
 | .nilsl=>some (true,0,[])
 | .nesl=>some (true,0,[])
 | .str s=>some (Nat.beq sz 1,ab s,ap s)
 |_=>none
def DJ (i:TypeInfo) (s:AV) (b:Bool) (n:Nat) (cs:List AV):Option ES:=match s with
 | .nilsl=>match Nat.beq n 0 with
  |true=>some (.obl b (.val .nilsl))
  |false=>some (.obl (b&&Nat.ble (n*i.bytes) 140737488355328) (.new (.cells cs) fun id=> .rsl true id 0 n i.size))
 | .fsl true es=>match Nat.beq n 0 with
  |true=>some (.obl b (.val (.fsl true es)))
  |false=>some (.obl (b&&(Nat.ble ((ab es+n)*i.bytes) 140737488355328&&bo i.size es)) (.new (.cells (flat es++cs)) fun id=> .rsl true id 0 (ab es+n) i.size))
 | .rsl true id 0 len sz=>some (.app (b&&(Nat.ble ((len+n)*i.bytes) 140737488355328&&(aS cs&&Nat.beq sz i.size))) id (fun l=>(Nat.beq (ab l) (len*i.size),l++cs)) fun id'=> .rsl true id' 0 (len+n) i.size)
 |_=>none
def DK:TypeDesc→Bool
 | .slice _| .string=>true
 |_=>false
def yw (argTypes:Array TypeId) (s x:AV):Option ES:=
 match argTypes[0]?,argTypes[1]? with
 | some st,some xt=>match P.underlying st,P.underlying xt with
  | some (.slice e),some xd=>match DK xd,P.info? e,eO P e with
   | true,some i,some z=>match Nat.beq i.size 0||Nat.beq i.bytes 0|| !Nat.beq (ab z.cells) i.size with
    |true=>none
    |false=>match lm i.size x with
     |some (b,n,cs)=>DJ i s b n cs
     |none=>none
   |_,_,_=>none
  |_,_=>none
 |_,_=>none
def rM (t:TypeId) (x:AV) (lo hi mx:Option AV):Option ES:=
 match oR lo,oR hi,mx with
 | some (b1,lo),some (b2,hi),none=>match x with
  | .str s=>match P.underlying t with
   |some .string=>some (.obl (b1&&(b2&&(Nat.ble (lo.getD 0) (hi.getD (ab s))&&Nat.ble (hi.getD (ab s)) (ab s)))) (.val (.str ((s.drop (lo.getD 0)).take (hi.getD (ab s)-lo.getD 0)))))
   |_=>none
  | .fsl full es=>match dB P t with
   |some e=>match bJ P e with
    |some sz=>some (.obl (b1&&(b2&&(mn sz es&&(Nat.ble (lo.getD 0) (hi.getD (ab es))&&Nat.ble (hi.getD (ab es)) (ab es))))) (.val (.fsl (qJ full none (hi.getD (ab es)) (ab es)) ((es.drop (lo.getD 0)).take (hi.getD (ab es)-lo.getD 0)))))
    |none=>none
   |none=>none
  | .rsl own id off len sz'=>match lo,hi with
   | none,some h=>match dB P t with
    |some e=>match bJ P e with
     |some sz=>some (.obl (b2&&(Nat.beq sz sz'&&Nat.ble h len)) (.val (.rsl own id off h sz)))
     |none=>none
    |none=>none
   |_,_=>none
  |_=>none
 |_,_,_=>none
def yx (src dst:TypeId) (x:AV):Option ES:=
 match P.underlying src,P.underlying dst,x with
 |some (.slice e),some .string,.fsl _ es=>match oo P e with
  |true=>some (.obl (e9 es).isSome (.val (.str (oT es))))
  |false=>none
 |_,_,_=>none
def yz (t:TypeId) (l c:AV):Option ES:=
 match dB P t,kj l,kj c with
 | some e,some (b1,l),some (b2,c)=>match P.info? e,eO P e with
  |some i,some z=>
   some (.obl (b1&&(b2&&(Nat.ble l c&&Nat.ble (i.bytes*c) 281474976710656&&Nat.ble c 9223372036854775807&&Nat.beq (ab z.cells) i.size&&Nat.blt 0 i.size))) (.new (.cells (flat (dk z c))) fun id=> .rsl true id 0 l i.size))
  |_,_=>none
 |_,_,_=>none
def yA (argTypes:Array TypeId) (d x:AV):Option ES:=
 match argTypes[0]? with
 | some t=>match dB P t with
  | some e=>match bJ P e with
   | some sz=>match d with
    | .rsl _ id off len _=>match lm sz x with
     |some (b,n,cs)=>some (.put (b&&aS cs) id (fun l=>(Nat.ble (off+ab (cs.take (min n len*sz))) (ab l),rJ l off (cs.take (min n len*sz)))) (.int .i64 (.ofNat (min n len))))
     |none=>none
    |_=>none
   |none=>none
  |none=>none
 |none=>none
def um (t:TypeId) (v:AV):List AV:=match eY P t with
 |some false=>[v]
 |_=>v.cells
def cQ (t:TypeId) (v:AV) (n:Nat):Bool:=match eY P t with
 |some false=>v.one&&Nat.beq n 1
 |_=>Nat.beq (ab v.cells) n&&aS v.cells
def yB (t:TypeId) (a v:AV):Option ES:=
 match a with
 | .ptr id off=>match bJ P t with
  |some n=>some (.put (cQ P t v n) id (fun l=>(Nat.ble (off+n) (ab l),rJ l off (um P t v))) gh)
  |none=>none
 |_=>none
def yC (t:TypeId) (v:AV):Option ES:=match eY P t with
 |some false=>some (.obl v.one (.new (.cells [v]) fun id=> .ptr id 0))
 |_=>none
def rO (fs:List Field) (pl:List (Nat × Nat)):List AV→List (Nat × AV)→Option (Bool × List AV)
 |cells,[]=>some (true,cells)
 | cells,(i,v)::rest=>match c7 fs i,c7 pl i with
  | some f,some (off,s)=>match Nat.blt 0 s&&Nat.ble (off+s) (ab cells) with
   |true=>match rO fs pl (rJ cells off (um P f.type v)) rest with
    |some (b,c)=>some (cQ P f.type v s&&b,c)
    |none=>none
   |false=>none
  |_,_=>none
def yD (t:TypeId) (parts:List (Nat × AV)):Option ES:=
 match eO P t,P.underlying t with
 | some z,some (.struct fs)=>match oq P fs.toList with
  |some pl=>match rO P fs.toList pl z.cells parts with
   |some (b,c)=>some (.obl b (.val (.agg c)))
   |none=>none
  |none=>none
 |_,_=>none
def yE (t:TypeId) (x i:AV):Option ES:=
 match P.underlying t,x,kj i with
 |some (.slice e),.rsl _ id off len sz',some (b,i)=>match bJ P e with
  |some sz=>some (.obl (b&&(Nat.blt i len&&Nat.beq sz sz')) (.val (.ptr id (off+i*sz))))
  |none=>none
 |_,_,_=>none
def oU (glob:Nat→Option (List AV)) (ops:List Oper) (ev:Operand→Option AV) (o:Oper):Option ES:=
 match o.op with
 | .pick c a b=>match ev c with
  |some (.bool t)=>some (.pick t (ev a) (ev b))
  |_=>none
 | .binOp op t x y _=>match op,ev x,ev y with
  | .add,some (.str a),some (.str b)=>some (.obl (Nat.ble (ab a+ab b) 9223372036854775807) (.val (.str (a++b))))
  | .eql,some (.agg a),some (.agg b)=>match P.eqGuardType P.depth t,mZ P 16 t (.agg a) (.agg b) with
   |false,some r=>some (.eff (.val (.bool r)))
   |_,_=>none
  | .neq,some (.agg a),some (.agg b)=>match P.eqGuardType P.depth t,mZ P 16 t (.agg a) (.agg b) with
   |false,some r=>some (.eff (.val (.bool !r)))
   |_,_=>none
  | .quo,some (.int k a),some (.int k' b)=>match decide (k=k') with
   |true=>some (.obl (!aF b 0) (.val (.int k (af k (a.tdiv b)))))
   |false=>none
  | .rem,some (.int k a),some (.int k' b)=>match decide (k=k') with
   |true=>some (.obl (!aF b 0) (.val (.int k (a.tmod b))))
   |false=>none
  |_,_,_=>match ca P glob ops ev o with
   |some e=>some (.eff e)
   |none=>none
 | .store t a x=>match ev a,ev x with
  |some a,some x=>yB P t a x
  |_,_=>none
 | .box t x=>match ev x with
  | some v=>match yC P t v with
   |some e=>some e
   |none=>match ca P glob ops ev o with
    |some e=>some (.eff e)
    |none=>none
  |none=>none
 | .build t parts=>match ji ev parts.toList with
  | some ps=>match yD P t ps with
   |some e=>some e
   |none=>match ca P glob ops ev o with
    |some e=>some (.eff e)
    |none=>none
  |none=>none
 | .indexAddr t x i=>match ev x,ev i with
  | some x,some i=>match yE P t x i with
   |some e=>some e
   |none=>match ca P glob ops ev o with
    |some e=>some (.eff e)
    |none=>none
  |_,_=>none
 | .convert s d x=>match ev x with
  | some (.fsl f es)=>match yx P s d (.fsl f es) with
   |some e=>some e
   |none=>match ca P glob ops ev o with
    |some e=>some (.eff e)
    |none=>none
  |_=>match ca P glob ops ev o with
   |some e=>some (.eff e)
   |none=>none
 | .index t x i=>match P.underlying t,ev x,ev i with
  |some .string,some (.str s),some w=>match kj w with
   |some (b,k)=>some (.obl (b&&Nat.blt k (ab s)) (.val (.int .u8 (.ofNat (yv s k).toNat))))
   |none=>none
  |_,_,_=>match ca P glob ops ev o with
   |some e=>some (.eff e)
   |none=>none
 | .makeSlice t l c=>match ev l,ev c with
  |some l,some c=>yz P t l c
  |_,_=>none
 | .slice t x lo hi mx=>match ev x,fQ ev lo,fQ ev hi,fQ ev mx with
  | some x,some lo,some hi,some mx=>match rM P t x lo hi mx with
   |some e=>some e
   |none=>match gI P t x lo hi mx with
    |some e=>some (.eff e)
    |none=>none
  |_,_,_,_=>none
 | .call c=>match c.callee,gK ev c.args.toList with
  | .builtin .append,some [s,x]=>match yw P c.argTypes s x with
   |some e=>some e
   |none=>match mt P c.argTypes s x with
    |some e=>some (.eff e)
    |none=>none
  | .builtin .copy,some [d,x]=>match yA P c.argTypes d x with
   |some e=>some e
   |none=>match mu P c.argTypes d x with
    |some e=>some (.eff e)
    |none=>none
  |_,_=>match ca P glob ops ev o with
   |some e=>some (.eff e)
   |none=>none
 |_=>match ca P glob ops ev o with
  |some e=>some (.eff e)
  |none=>none
variable (O:bi) (n:Nat)
abbrev bg:=St→(AExit→St→Prop)→Prop
inductive oV where
 |val (v:AV)
 |part (L:List Nat) (v:AV) (H2:ae) (m:Nat)
abbrev dj:=FuncId→List AV→ae→Nat→Option oV
def aA:dj:=fun _ _ _ _=>none
structure rP where
 see:List AV→ae→List Nat
 run:List AV→ae→Nat→(AV→ae→Nat→Prop)→Prop
def yF:FuncId→Option rP:=fun _=>none
def iP:Nat→Option (St→(St→Prop)→Prop):=fun _=>none
structure be where
 hint:Nat→Nat→Option ez:=fun _ _=>none
 ls:Nat→Option bg:=fun _=>none
 cx:bd:=fun _ _ _ _ _=>none
 sem:dj:=aA
 inl:FuncId→Option rP:=yF
 cut:Nat→Option (St→(St→Prop)→Prop):=iP
def yG (L:List Nat) (H2:ae) (nx:Nat) (h:ae):ae:=Mods.app (kc (gN H2 L) (gn nx H2 H2)) h
def rQ (args:List AV) (h:ae) (nx:Nat) (K:AV→ae→Nat→Foot→Prop) (T:rP):Prop:=
 T.run args (cv h (T.see args h)) nx fun v H2 nx2=>aC (Nat.ble nx nx2) (K v (yG (T.see args h) H2 nx h) nx2 ⟨true,T.see args h,nx::T.see args h⟩)
def oX (f:FuncId) (args:List AV) (h:ae) (nx:Nat) (K:AV→ae→Nat→Foot→Prop):oV→Prop
 | .val v=>SemCall P O.glob f args v∧K v h nx ⟨false,[],[]⟩
 | .part L v H2 m=>BodySem P O.glob f args (cv h L) nx v H2 (nx+m)∧K v (yG L H2 nx h) (nx+m) ⟨true,L,nx::L⟩
variable (A:be)
def gq (id d:Nat) (e:Eff) (h:ae) (nx:Nat) (K:AV→ae→Nat→Foot→Prop):Prop:=
 match a7 (aW P O n) id d e h nx with
 |some (v,h',nx',ft)=>K v h' nx' ft
 |none=>False
def fX (id:Nat):Nat→Eff→ae→Nat→(AV→ae→Nat→Foot→Prop)→Prop
  | 0, e,h,nx,K=>match e with
    | .call f args=>match A.cx f args id h nx with
      |some (v,h',nx',ft)=>K v h' nx' ft
      | none=>match A.sem f args h nx with
       |some r=>oX P O f args h nx K r
       | none=>match A.inl f with
        |some T=>rQ args h nx K T
        |none=>match O.how f with
         | .pure=>match O.summ f args with
           |some v=>aC (ad args) (K v h nx ⟨false,[],[]⟩)
           |none=>gq P O n id 0 (.call f args) h nx K
         |_=>gq P O n id 0 (.call f args) h nx K
    |e=>gq P O n id 0 e h nx K
  | d + 1, e,h,nx,K=>match e with
    | .call f args=>match A.cx f args id h nx with
      |some (v,h',nx',ft)=>K v h' nx' ft
      | none=>match A.sem f args h nx with
       |some r=>oX P O f args h nx K r
       | none=>match A.inl f with
        |some T=>rQ args h nx K T
        |none=>match O.how f with
         | .pure=>match O.summ f args with
           |some v=>aC (ad args) (K v h nx ⟨false,[],[]⟩)
           |none=>gq P O n id (d+1) (.call f args) h nx K
         |_=>gq P O n id (d+1) (.call f args) h nx K
    | .read i k=>match hget h i with
      | some b=>match k b with
        |some e=>fX id d e h nx fun v h' nx' ft=>K v h' nx' ⟨ft.all,i::ft.r,ft.w⟩
        |none=>False
      |none=>False
    |e=>gq P O n id (d+1) e h nx K
def rR (id:Nat) (h:ae) (nx:Nat) (K:AV→ae→Nat→Foot→Prop):Option ES→Prop
 |none=>False
 |some (.eff e)=>fX P O n A id 2 e h nx K
 |some (.obl b e)=>aC b (fX P O n A id 2 e h nx K)
 |some (.app b i k v)=>aC b (match hget h i with
  |some (.cells l)=>aC (k l).1 (K (v id) (bA (bB h i) id (.cells (k l).2)) nx ⟨false,[],[i,id]⟩)
  |_=>False)
 |some (.put b i k v)=>aC b (match hget h i with
  |some (.cells l)=>aC (k l).1 (K v (bA h i (.cells (k l).2)) nx ⟨false,[],[i]⟩)
  |_=>False)
 | some (.pick b x y)=>match b with
  |true=>match x with
   |some v=>K v h nx ⟨false,[],[]⟩
   |none=>False
  |false=>match y with
   |some v=>K v h nx ⟨false,[],[]⟩
   |none=>False
def yH (ev:Operand→Option AV) (o:Oper) (r:AV):Option Prop:=
 match o.op with
 | .convert s d x=>match ev x with
  |some v=>some (gH P s d v=some (.val r))
  |none=>none
 | .indexAddr t x i=>match ev x,ev i with
  |some v,some w=>some (ax P t v w=some r)
  |_,_=>none
 | .index t x i=>match ev x,ev i with
  |some v,some w=>some (aZ P t v w=some r)
  |_,_=>none
 | .slice t x lo hi mx=>match ev x,fQ ev lo,fQ ev hi,fQ ev mx with
  |some x,some lo,some hi,some mx=>some (gI P t x lo hi mx=some (.val r))
  |_,_,_,_=>none
 | .binOp op t x y _=>match ev x,ev y with
  |some v,some w=>some (aG P op t x y v w=some r)
  |_,_=>none
 | .call c=>match c.callee,gK ev c.args.toList with
  | .builtin b,some args=>some (my P b c.argTypes args=some (.val r))
  |_,_=>none
 |_=>none
def iQ (ops:List Oper) (id:Nat) (o:Oper) (s:St) (K:AV→ae→Nat→Foot→Prop):ez→Prop
 | .plain=>match ca P O.glob ops (bq s.slots) o with
  |some e=>fX P O n A id 2 e s.heap s.nx K
  |none=>False
 | .ans a=>match oL P O n (fun _ _ _ _ _=>none) ops id o s a with
  |some ((v,h,nx,ft),F)=>ey P O F∧K v h nx ft
  |none=>False
 | .el v=>match o.op with
  | .indexAddr t x i=>match bq s.slots x,bq s.slots i with
   | some (.fsl _ es),some w=>match kj w,dB P t with
    |some (b,k),some e=>match bJ P e with
     |some sz=>c7 es k=some v∧aC (b&&Nat.beq (ab v.cells) sz) (K (.fptr v.cells 0) s.heap s.nx ⟨false,[],[]⟩)
     |none=>False
    |_,_=>False
   |_,_=>False
  |_=>False
 | .ld v=>match o.op with
  | .load t a=>match bq s.slots a with
   |some (.ptr i off)=>match hget s.heap i with
    |some (.cells l)=>bh P t l off=some v∧K v s.heap s.nx ⟨false,[i],[]⟩
    |_=>False
   |some (.fptr cs off)=>bh P t cs off=some v∧K v s.heap s.nx ⟨false,[],[]⟩
   |some (.gptr g off)=>eZ P t (.gptr g off) O.glob=some (.val v)∧K v s.heap s.nx ⟨false,[],[]⟩
   |_=>False
  |_=>False
 | .res r=>match yH P (bq s.slots) o r with
  |some p=>p∧K r s.heap s.nx ⟨false,[],[]⟩
  |none=>False
abbrev Kn:=List (Nat × Bool)
def kl:Kn→Nat→Option Bool
 |[],_=>none
 |(d,b)::t,k=>match Nat.beq d k with
  |true=>some b
  |false=>kl t k
def rS:Kn→Nat→Kn
 |[],_=>[]
 |(d,b)::t,k=>match Nat.beq d k with
  |true=>rS t k
  |false=>(d,b)::rS t k
def km (kn:Kn):Option Tmp→Kn
 |some d=>rS kn d
 |none=>kn
def yI (kn:Kn) (slots:Tr) (x:Operand):Option AV:=match x with
 | .tmp t=>match kl kn t with
  |some b=>some (.bool b)
  |none=>bq slots (.tmp t)
 |x=>bq slots x
def iR (rid:Nat) (ops:List Oper) (id i:Nat) (o:Oper) (s:St) (kn:Kn) (K:Kn→St→Foot→Prop):Prop:=
 match A.hint rid i with
 |some a=>iQ P O n A ops id o s (fun v h nx ft=>K (km kn o.dst) ⟨ce s.n s.slots o.dst v,h,nx,s.n⟩ ft) a
 |none=>rR P O n A id s.heap s.nx (fun v h nx ft=>K (km kn o.dst) ⟨ce s.n s.slots o.dst v,h,nx,s.n⟩ ft) (oU P O.glob ops (yI kn s.slots) o)
def m5 (o:Oper) (s:St) (kn:Kn) (K:Kn→St→Foot→Prop):Prop:=K (km kn o.dst) ⟨ce s.n s.slots o.dst gh,s.heap,s.nx,s.n⟩ ⟨false,[],[]⟩
def rT (rid:Nat) (ops:List Oper) (id i:Nat) (o:Oper) (s:St) (kn:Kn) (K:Kn→St→Foot→Prop):Prop:=
 match o.guard with
 |none=>iR P O n A rid ops id i o s kn K
 | some (j,want)=>match c7 ops j with
  | some g=>match g.dst with
   | some d=>match kl kn d with
    | some b=>match want with
     |true=>match b with
      |true=>iR P O n A rid ops id i o s kn K
      |false=>m5 o s kn K
     |false=>match b with
      |true=>m5 o s kn K
      |false=>iR P O n A rid ops id i o s kn K
    | none=>match s.slots.get d with
     | some (.bool b)=>match want with
      |true=>match b with
       |true=>iR P O n A rid ops id i o s ((d,true)::kn) K
       |false=>m5 o s ((d,false)::kn) K
      |false=>match b with
       |true=>m5 o s ((d,true)::kn) K
       |false=>iR P O n A rid ops id i o s ((d,false)::kn) K
     |some (.tuple [])=>m5 o s kn K
     |_=>False
   |none=>False
  |none=>False
def rU (rid:Nat) (all:List Oper) (base:Nat):List Oper→Nat→St→Kn→List (Nat × Foot)→(St→List (Nat × Foot)→Prop)→Prop
 |[],_,s,_,acc,K=>K s acc
 |o::rest,i,s,kn,acc,K=>rT P O n A rid all (base+i) i o s kn fun kn' s' ft=>rU rid all base rest (i+1) s' kn' (match ft.none with|true=>acc|false=>(i,ft)::acc) K
def un (B:St→(AExit→St→Prop)→Prop):Nat→St→(AExit→St→Prop)→Prop
 |0,_,_=>False
 |k+1,s,Q=>B s (ul (fun s'=>un B k s' Q) Q)
end
def lp:Code→Nat
 | .region id _ _=>id+1
 | .seq a b=>match lp a with
  |0=>lp b
  |k+1=>k+1
 | .cond _ a b=>match lp a with
  |0=>lp b
  |k+1=>k+1
 | .block _ c=>lp c
 | .loop c=>lp c
 |_=>0
def br:Code→Nat→List Code
 | .seq a b,r=>br a r++br b r
 | .cond _ a b,r=>br a r++br b r
 | .block _ c,r=>br c r
 | .loop c,r=>(match Nat.beq (lp c) r with
  |true=>[c]
  |false=>[])++br c r
 |_,_=>[]
section
variable (P:Program) (O:bi) (n:Nat) (A:be)
def rV (rid:Nat) (ops:Array Oper) (draw:Bool) (s:St) (Q:AExit→St→Prop):Prop:=
 rU P O n A rid ops.toList s.nx ops.toList 0 ⟨s.slots,s.heap,s.nx+ab ops.toList,s.n⟩ [] [] fun s' feet=>match draw with
  |false=>Q .normal s'
  |true=>aC (ka ops.toList&&jk (eh ops.toList []) feet) (Q .normal s')
def yJ (c:Operand) (b:Bool) (s:St):St:=match c with
 | .tmp d=>⟨ce s.n s.slots (some d) (.bool b),s.heap,s.nx,s.n⟩
 |_=>s
def aw:Code→St→(AExit→St→Prop)→Prop
 | .skip,s,Q=>Q .normal s
 | .label _,s,Q=>Q .normal s
 | .exit i,s,Q=>Q (.exit i) s
 | .ret,s,Q=>Q .ret s
 | .region rid ops draw,s,Q=>match A.cut rid with
  |some C=>C s fun s=>rV P O n A rid ops draw s Q
  |none=>rV P O n A rid ops draw s Q
 | .seq a b,s,Q=>aw a s (ul (fun s'=>aw b s' Q) Q)
 | .cond c a b,s,Q=>match bq s.slots c with
  |some (.bool t)=>match t with
   |true=>aw a (yJ c true s) Q
   |false=>aw b (yJ c false s) Q
  |_=>False
 | .block id body,s,Q=>aw body s (oQ id Q)
 | .loop body,s,Q=>match A.ls (lp body) with
  |some L=>L s Q
  |none=>un (aw body) O.lf s Q
 |_,_,_=>False
def aL (f:FuncId) (args:List AV) (H:ae) (nx:Nat) (Q:AV→ae→Nat→Prop):Prop:=
  match P.funcs[f]? with
  | some fn=>match fn.body with
    | some c=>match fn.name== "runtime.NumGoroutine" with
      |true=>False
      | false=>match Nat.ble (ab args) fn.ntmps&&Nat.ble fn.ntmps 4095 with
       |false=>False
       |true=>aw P O n A c ⟨dE args 0 .tip,H,nx,fn.ntmps⟩ fun e s=>match e with
        | .exit _=>False
        | _=>match dC P O.glob s fn.results.toList with
          |some l=>Q (dD l) s.heap s.nx
          |none=>False
    |none=>False
  |none=>False
end
end
end Go.Proofs.Abs
/- The abstract machine in continuation form says but what is so. -/
namespace Go.Proofs.Abs
open Go
theorem oblB_iff {b:Bool} {K:Prop}:aC b K↔b=true∧K:=by cases b<;>simp[aC]
theorem az {b:Bool} {T F:Prop} (ht:b=true→T) (hf:b=false→F):ak b T F:=by cases b<;>simp_all [ak]
section
variable {P:Program}
theorem yK {eq eq':TypeId→AV→AV→Option Bool} (h:∀t x y r,eq t x y=some r→eq' t x y=some r):∀ (fs:List Field) (xs ys:List AV) (r:Bool),eqF P eq fs xs ys=some r→j7 P eq' fs xs ys=some r
 |[],xs,ys,r,hr=>by simpa [eqF,j7] using hr
 | f ::fs,xs,ys,r,hr=>by
  simp only[eqF] at hr
  simp only[j7]
  split at hr
  ·rename_i hn;simp only[hn];exact yK h fs xs ys r hr
  ·rename_i hn
   simp only[hn]
   split at hr
   ·rename_i a b ha hb
    simp only[ha,hb]
    split at hr
    ·rename_i p q hp hq
     simp only[Option.some.injEq] at hr
     subst hr
     rw[h _ _ _ _ hp]
     cases p with
     |true=>simpa using yK h fs xs ys q hq
     |false=>rfl
    ·cases hr
   ·cases hr
theorem DL {eq eq':TypeId→AV→AV→Option Bool} (h:∀t x y r,eq t x y=some r→eq' t x y=some r) {e:TypeId} {sz:Nat} {xs ys:List AV}:∀ (is:List Nat) (r:Bool),rK P eq e sz xs ys is=some r→kQ P eq' e sz xs ys is=some r
 |[],r,hr=>by simpa [rK,kQ] using hr
 | i::is,r,hr=>by
  simp only[rK] at hr
  simp only[kQ]
  split at hr
  ·rename_i a b ha hb
   simp only[ha,hb]
   split at hr
   ·rename_i p q hp hq
    simp only[Option.some.injEq] at hr
    subst hr
    rw[h _ _ _ _ hp]
    cases p with
    |true=>simpa using DL h is q hq
    |false=>rfl
   ·cases hr
  ·cases hr
theorem uo:∀ (d:Nat) (t:TypeId) (x y:AV) (r:Bool),mZ P d t x y=some r→dX P d t x y=some r
 |0,_,_,_,_,h=>by simp[mZ] at h
 | d +1,t,x,y,r,h=>by
  unfold mZ at h
  split at h
  ·rename_i xs ys
   split at h
   ·rename_i fs hu
    split at h
    ·cases h
    ·rename_i hs
     unfold dX
     simp only[hu,hs]
     exact yK (uo d) _ _ _ _ h
   ·rename_i n e hu
    split at h
    ·rename_i sz hs
     unfold dX
     simp only[hu,hs]
     exact DL (uo d) _ _ h
    ·cases h
   ·cases h
  ·exact h
theorem oY {w:AV} {b:Bool} {k:Nat} (h:kj w=some (b,k)) (hb:b=true):gm w=some k:=by
 unfold kj at h
 split at h
 ·rename_i kd n
  simp only[Option.some.injEq,Prod.mk.injEq] at h
  obtain ⟨rfl,rfl⟩:=h
  cases n with
  |ofNat m=>rfl
  |negSucc m=>cases hb
 ·cases h
theorem oZ {w:Option AV} {b:Bool} {k:Option Nat} (h:oR w=some (b,k)) (hb:b=true):iF w=some k:=by
 unfold oR at h
 split at h
 ·simp only[Option.some.injEq,Prod.mk.injEq] at h
  obtain ⟨_,rfl⟩:=h;rfl
 ·rename_i v
  split at h
  ·rename_i b' n hn
   simp only[Option.some.injEq,Prod.mk.injEq] at h
   obtain ⟨rfl,rfl⟩:=h
   simp[iF,oY hn hb]
  ·cases h
theorem uq:∀ (l:List AV) (o n:Nat),o+n≤l.length→chunk l o n=some ((l.drop o).take n)
 |l,o,0,_=>by cases l<;>simp[chunk]
 |[],o,n+1,h=>by simp at h
 |a::t,0,n+1,h=>by
  simp only[List.length_cons] at h
  simp[chunk,uq t 0 n (by omega)]
 |a::t,o+1,n+1,h=>by
  simp only[List.length_cons] at h
  simp[chunk,uq t o (n+1) (by omega)]
theorem Me {i:TypeInfo} {xd:TypeDesc} {z x:AV} {b:Bool} {m:Nat} {cs:List AV} {k:Nat→List AV→Option Eff} (hx:DK xd=true) (h:lm i.size x=some (b,m,cs)) (hb:b=true):ot xd i.size i.bytes z x k=k m cs:=by
 have e:ot xd i.size i.bytes z x k=gJ i.size x k:=by
  cases xd<;>first|(cases hx;done)|rfl
 rw[e]
 unfold lm at h
 split at h
 ·simp only[Option.some.injEq,Prod.mk.injEq] at h
  obtain ⟨rfl,rfl,rfl⟩:=h
  simp[gJ,hb]
 ·simp only[Option.some.injEq,Prod.mk.injEq] at h
  obtain ⟨rfl,rfl,rfl⟩:=h;rfl
 ·simp only[Option.some.injEq,Prod.mk.injEq] at h
  obtain ⟨rfl,rfl,rfl⟩:=h;rfl
 ·simp only[Option.some.injEq,Prod.mk.injEq] at h
  obtain ⟨rfl,rfl,rfl⟩:=h
  simp only[gJ,hb,if_true]
 ·cases h
theorem Mf {sz:Nat} {x:AV} {b:Bool} {cs:List AV} (h:lm sz x=some (b,0,cs)):cs=[]:=by
 unfold lm at h
 split at h
 ·rename_i es
  simp only[Option.some.injEq,Prod.mk.injEq] at h
  obtain ⟨_,h1,rfl⟩:=h
  cases es with
  |nil=>rfl
  |cons a r=>simp[ab] at h1
 ·simp only[Option.some.injEq,Prod.mk.injEq] at h
  exact h.2.2.symm
 ·simp only[Option.some.injEq,Prod.mk.injEq] at h
  exact h.2.2.symm
 ·rename_i s
  simp only[Option.some.injEq,Prod.mk.injEq] at h
  obtain ⟨_,h1,rfl⟩:=h
  cases s with
  |nil=>rfl
  |cons a r=>simp[ab] at h1
 ·cases h
theorem Mg (l:List AV) (k:Nat):splice l k []=some l:=by cases l<;>cases k<;>rfl
theorem Mh {argTypes:Array TypeId} {s x:AV} {es:ES} (h:yw P argTypes s x=some es):es.ok (mt P argTypes s x):=by
 unfold yw at h
 split at h
 ·rename_i st xt h1 h2
  split at h
  ·rename_i e xd h3 h4
   split at h
   ·rename_i i z hx hi hz
    split at h
    ·cases h
    ·rename_i hc
     split at h
     ·rename_i b m cs hsrc
      have hA:∀k,b=true→ot xd i.size i.bytes z x k=k m cs:=fun k hb=>Me hx hsrc hb
      unfold mt
      simp only[h1,h2,h3,h4,hi,hz]
      rw[Bool.or_eq_false_iff,Bool.or_eq_false_iff] at hc
      obtain ⟨⟨c1,c2⟩,c3⟩:=hc
      simp only[c1,c2,c3,Bool.or_self,Bool.false_eq_true,if_false]
      unfold DJ at h
      split at h
      ·split at h
       ·rename_i hm
        simp only[Option.some.injEq] at h;subst h
        intro hb
        rw[hA _ hb];simp[hm]
       ·rename_i hm
        simp only[Option.some.injEq] at h;subst h
        intro hb
        rw[Bool.and_eq_true] at hb
        rw[hA _ hb.1];simp only[hm,hb.2,Bool.false_eq_true,if_false,if_true]
      ·split at h
       ·rename_i hm
        simp only[Option.some.injEq] at h;subst h
        intro hb
        rw[hA _ hb];simp[hm]
       ·rename_i hm
        simp only[Option.some.injEq] at h;subst h
        intro hb
        rw[Bool.and_eq_true] at hb
        rw[hA _ hb.1];simp only[hm,hb.2,Bool.false_eq_true,if_false,if_true]
      ·rename_i id len sz
       simp only[Option.some.injEq] at h;subst h
       intro hb
       rw[Bool.and_eq_true,Bool.and_eq_true] at hb
       obtain ⟨hb,hb1,hb2⟩:=hb
       rw[hA _ hb]
       simp only[hb1,hb2,Bool.true_and,if_true]
       refine ⟨_,rfl,fun l hl=> ?_⟩
       have hl:=beq_iff.1 hl
       have hs:i.size≠0:=beq_false_iff.1 c1
       cases hm:Nat.beq m 0 with
       | false=>
        have hm:m≠0:=beq_false_iff.1 hm
        have:¬ ((len+m)*i.size≤ab l):=by
         rw[hl]
         intro hle
         have:=Nat.le_of_mul_le_mul_right hle (Nat.pos_of_ne_zero hs)
         omega
        simp only
        rw[if_neg (by simpa using this),if_pos (by simp[hl])]
        rw[List.take_of_length_le (by rw[←aI];omega)]
       |true=>
        obtain rfl:=beq_iff.1 hm
        obtain rfl:=Mf hsrc
        simp only[Nat.add_zero]
        rw[if_pos (by simp[hl]),Mg,List.append_nil]
      ·cases h
     ·cases h
   ·cases h
  ·cases h
 ·cases h
theorem DM {t:TypeId} {x:AV} {lo hi mx:Option AV} {es:ES} (h:rM P t x lo hi mx=some es):es.ok (gI P t x lo hi mx):=by
 unfold rM at h
 split at h
 ·rename_i b1 l b2 hh hl hhi
  split at h
  ·rename_i s
   split at h
   ·rename_i hu
    simp only[Option.some.injEq] at h;subst h
    intro hb
    simp only[Bool.and_eq_true] at hb
    obtain ⟨k1,k2,k3,k4⟩:=hb
    have q1:=oZ hl k1
    have q2:=oZ hhi k2
    have q3:iF none=some none:=rfl
    simp only[gI,q1,q2,q3,wW,hu,k3,k4,Option.isNone_none,Bool.and_self]
   ·cases h
  ·rename_i full es'
   split at h
   ·rename_i e he
    split at h
    ·rename_i sz hsz
     simp only[Option.some.injEq] at h;subst h
     intro hb
     simp only[Bool.and_eq_true] at hb
     obtain ⟨k1,k2,k3,k4,k5⟩:=hb
     have q1:=oZ hl k1
     have q2:=oZ hhi k2
     have q3:iF none=some none:=rfl
     simp only[gI,q1,q2,q3,wX,he,hsz,k3,k4,k5,Bool.and_self,wV]
     rw[uq _ _ _ (by rw[←aI];rw[Nat.ble_eq] at k4 k5;omega)]
    ·cases h
   ·cases h
  ·rename_i own id off len sz'
   split at h
   ·rename_i h0
    split at h
    ·rename_i e he
     split at h
     ·rename_i sz hsz
      simp only[Option.some.injEq] at h;subst h
      intro hb
      simp only[Bool.and_eq_true] at hb
      obtain ⟨k2,k3,k4⟩:=hb
      have e1:b1=true:=by
       unfold oR at hl
       split at hl
       ·simp only[Option.some.injEq,Prod.mk.injEq] at hl;exact hl.1.symm
       ·split at hl
        ·simp at hl
        ·cases hl
      have q1:=oZ hl e1
      have q2:=oZ hhi k2
      have q3:iF none=some none:=rfl
      simp only[gI,q1,q2,q3,wY,he,hsz,k3,Option.getD_none,Option.getD_some,k4,Option.isNone_none,Bool.and_true]
      have k5:Nat.ble 0 h0=true:=by simp
      simp[qK,beq_iff.1 k3,k5]
     ·cases h
    ·cases h
   ·cases h
  ·cases h
 ·cases h
theorem Mi {src dst:TypeId} {x:AV} {es:ES} (h:yx P src dst x=some es):es.ok (gH P src dst x):=by
 unfold yx at h
 split at h
 ·rename_i e f l hs hd
  split at h
  ·rename_i hb
   simp only[Option.some.injEq] at h;subst h
   intro hi
   unfold gH
   simp only[hs,hd,hb,wU]
   cases hl:e9 l with
   |none=>rw[hl] at hi;cases hi
   |some s=>simp[ml,oT,hl]
  ·cases h
 ·cases h
theorem Mj {t:TypeId} {l c:AV} {es:ES} (h:yz P t l c=some es):es.ok (qI P t l c):=by
 unfold yz at h
 split at h
 ·rename_i e b1 l' b2 c' he hl hc
  split at h
  ·rename_i i z hi hz
   simp only[Option.some.injEq] at h;subst h
   intro hb
   rw[Bool.and_eq_true,Bool.and_eq_true] at hb
   obtain ⟨k1,k2,k3⟩:=hb
   simp only[qI,he,oY hl k1,oY hc k2,hi,hz,k3]
  ·cases h
 ·cases h
theorem yL {l:List AV} {o:Nat} {vs:List AV} (h:o+vs.length≤l.length):splice l o vs=some (rJ l o vs):=by
  unfold rJ
  rw[aI]
  exact go l o vs h
 where
  go:∀ (l:List AV) (o:Nat) (vs:List AV),o+vs.length≤l.length→splice l o vs=some (l.take o++(vs++l.drop (o+vs.length)))
    |l,o,[],_=>by cases l<;>simp[splice]
    |[],o,_::_,h=>by simp at h
    | a::t,0,v::vs,h=>by
      simp only[List.length_cons] at h
      have:=go t 0 vs (by omega)
      simp only[splice,this]
      simp
    | a::t,o+1,v::vs,h=>by
      simp only[List.length_cons] at h
      have:=go t o (v::vs) (by simp only[List.length_cons];omega)
      simp only[splice,this]
      simp[show o+1+(vs.length+1)=o+(vs.length+1)+1 by omega]
theorem Mk {sz:Nat} {x:AV} {b:Bool} {m:Nat} {cs:List AV} {k:Nat→List AV→Option Eff} (h:lm sz x=some (b,m,cs)) (hb:b=true):gJ sz x k=k m cs:=by
 unfold lm at h
 split at h
 ·simp only[Option.some.injEq,Prod.mk.injEq] at h
  obtain ⟨rfl,rfl,rfl⟩:=h
  simp[gJ,hb]
 ·simp only[Option.some.injEq,Prod.mk.injEq] at h
  obtain ⟨rfl,rfl,rfl⟩:=h;rfl
 ·simp only[Option.some.injEq,Prod.mk.injEq] at h
  obtain ⟨rfl,rfl,rfl⟩:=h;rfl
 ·simp only[Option.some.injEq,Prod.mk.injEq] at h
  obtain ⟨rfl,rfl,rfl⟩:=h
  simp only[gJ,hb,if_true]
 ·cases h
theorem Ml {argTypes:Array TypeId} {d x:AV} {es:ES} (h:yA P argTypes d x=some es):es.ok (mu P argTypes d x):=by
 unfold yA at h
 split at h
 ·rename_i t ht
  split at h
  ·rename_i e he
   split at h
   ·rename_i sz hsz
    split at h
    ·rename_i own id off len s'
     split at h
     ·rename_i b m cs hsrc
      simp only[Option.some.injEq] at h;subst h
      intro hb
      rw[Bool.and_eq_true] at hb
      unfold mu
      simp only[ht,he,hsz,Mk hsrc hb.1,hb.2,if_true]
      refine ⟨_,rfl,fun l hl=> ?_⟩
      have hl:off+(cs.take (min m len*sz)).length≤l.length:=by simpa [aI] using hl
      simp only[yL hl]
     ·cases h
    ·cases h
   ·cases h
  ·cases h
 ·cases h
theorem DN {t:TypeId} {v:AV} {n:Nat} (h:cQ P t v n=true):(Nat.beq (ab v.cells) n&&aS v.cells)=true∧um P t v=v.cells:=by
 unfold cQ at h
 unfold um
 split at h
 ·rename_i ht
  rw[Bool.and_eq_true] at h
  have e:=tV h.1
  have hn:=beq_iff.1 h.2
  subst hn
  exact ⟨by rw[e];simp[ab,aS,h.1],e.symm⟩
 ·rename_i hne
  exact ⟨h,rfl⟩
theorem Mm {t:TypeId} {a v:AV} {es:ES} (h:yB P t a v=some es):es.ok (mj P t a v):=by
 unfold yB at h
 split at h
 ·rename_i id off
  split at h
  ·rename_i n hn
   simp only[Option.some.injEq] at h;subst h
   intro hb
   obtain ⟨hb,hc⟩:=DN hb
   have hb1:=(Bool.and_eq_true _ _▸hb:_∧_).1
   refine ⟨_,by simp only[mj,hn,hb,if_true];rfl,fun l hl=> ?_⟩
   have hl:off+v.cells.length≤l.length:=by
    have h1:=beq_iff.1 hb1
    rw[aI] at h1
    simpa [aI,h1] using hl
   simp only[hc,yL hl,Option.map_some]
  ·cases h
 ·cases h
theorem Mn {t:TypeId} {v:AV} {es:ES} (h:yC P t v=some es):es.ok (ov v):=by
 unfold yC at h
 split at h
 ·simp only[Option.some.injEq] at h;subst h
  intro hb
  simp only[ov,tV hb]
 ·cases h
theorem DO {fs:List Field} {pl:List (Nat × Nat)}:∀ {parts:List (Nat × AV)} {cells c:List AV} {b:Bool},rO P fs pl cells parts=some (b,c)→b=true→iG (c7 pl) cells parts=some c
 |[],_,_,_,h,_=>by
  simp only[rO,Option.some.injEq,Prod.mk.injEq] at h
  simp only[iG,h.2]
 | (i,v)::rest,cells,c,b,h,hb=>by
  unfold rO at h
  split at h
  ·rename_i f off s hf hp
   split at h
   ·rename_i hs
    split at h
    ·rename_i b' c' hr
     simp only[Option.some.injEq,Prod.mk.injEq] at h
     obtain ⟨rfl,rfl⟩:=h
     rw[Bool.and_eq_true] at hb hs
     obtain ⟨h1,h2⟩:=DN hb.1
     rw[Bool.and_eq_true] at h1
     have hl:=beq_iff.1 h1.1
     rw[aI] at hl
     have hle:=Nat.le_of_ble_eq_true hs.2
     rw[aI] at hle
     have:=DO hr hb.2
     rw[h2] at this
     simp only[iG,hp,h1.1,hs.1,Bool.and_self,if_true,yL (show off+v.cells.length≤cells.length by omega),this]
    ·cases h
   ·cases h
  ·cases h
theorem Mo {t:TypeId} {parts:List (Nat × AV)} {es:ES} (h:yD P t parts=some es):es.ok (bW (qM P t parts)):=by
 unfold yD at h
 split at h
 ·rename_i z fs hz hu
  split at h
  ·rename_i pl hpl
   split at h
   ·rename_i b c hc
    simp only[Option.some.injEq] at h;subst h
    intro hb
    simp only[qM,hz,hu,hpl,DO hc hb,mq,bW]
   ·cases h
  ·cases h
 ·cases h
theorem Mp {t:TypeId} {x i:AV} {es:ES} (h:yE P t x i=some es):es.ok (bW (ax P t x i)):=by
 unfold yE at h
 split at h
 ·rename_i e own id off len sz' b k hu hn
  split at h
  ·rename_i sz hsz
   simp only[Option.some.injEq] at h;subst h
   intro hb
   rw[Bool.and_eq_true] at hb
   have q1:=oY hn hb.1
   simp only[ax,q1,hu,hsz,hb.2,Option.bind_eq_bind,Option.bind_some,if_true,bW]
  ·cases h
 ·cases h
theorem dg {G:aQ} {ops:List Oper} {ev:Operand→Option AV} {o:Oper} (h:mV o.op=true):ca P G ops ev o=bD P G ev o:=by
 unfold ca
 split
 ·rename_i ho _;rw[ho] at h;cases h
 ·rfl
theorem Mq {G:aQ} {ops:List Oper} {ev:Operand→Option AV} {o:Oper} {es:ES} (h:oU P G ops ev o=some es):es.ok (ca P G ops ev o):=by
 have plain:(match ca P G ops ev o with
   |some e=>some (ES.eff e)
   |none=>none)=some es→es.ok (ca P G ops ev o):=fun h=>by
  split at h
  ·rename_i e he
   simp only[Option.some.injEq] at h;subst h
   exact he
  ·cases h
 unfold oU at h
 split at h
 ·rename_i c a b ho
  rw[dg (by rw[ho];rfl)]
  split at h
  ·rename_i t ht
   simp only[Option.some.injEq] at h;subst h
   refine ⟨?_, ?_⟩<;>rintro rfl<;>simp[bD,ho,tB,ht]
  ·cases h
 ·rename_i op t x y t' ho
  split at h
  ·rename_i a b hx hy
   simp only[Option.some.injEq] at h;subst h
   intro hb
   rw[dg (by rw[ho];rfl)]
   simp only[bD,ho,e2,hx,hy,bW,aG,hb,if_true]
  ·rename_i a b hx hy
   split at h
   ·rename_i r hg hr
    simp only[Option.some.injEq] at h;subst h
    show _=some _
    rw[dg (by rw[ho];rfl)]
    simp only[bD,ho,e2,hx,hy,bW,aG,hg,uo _ _ _ _ _ hr,Bool.false_eq_true,if_false,Option.map_some]
   ·cases h
  ·rename_i a b hx hy
   split at h
   ·rename_i r hg hr
    simp only[Option.some.injEq] at h;subst h
    show _=some _
    rw[dg (by rw[ho];rfl)]
    simp only[bD,ho,e2,hx,hy,bW,aG,hg,uo _ _ _ _ _ hr,Bool.false_eq_true,if_false,Option.map_some]
   ·cases h
  ·rename_i k a k' b hx hy
   split at h
   ·rename_i hk
    have hk:=of_decide_eq_true hk
    subst hk
    simp only[Option.some.injEq] at h;subst h
    intro hb
    have hb:aF b 0=false:=by simpa using hb
    rw[dg (by rw[ho];rfl)]
    simp[bD,ho,e2,hx,hy,bW,aG,hb]
   ·cases h
  ·rename_i k a k' b hx hy
   split at h
   ·rename_i hk
    have hk:=of_decide_eq_true hk
    subst hk
    simp only[Option.some.injEq] at h;subst h
    intro hb
    have hb:aF b 0=false:=by simpa using hb
    rw[dg (by rw[ho];rfl)]
    simp[bD,ho,e2,hx,hy,bW,aG,hb]
   ·cases h
  ·exact plain h
 ·rename_i t a x ho
  split at h
  ·rename_i a' x' ha hx
   rw[dg (by rw[ho];rfl)]
   have:=Mm h
   simpa only[bD,ho,e2,ha,hx] using this
  ·cases h
 ·rename_i t x ho
  split at h
  ·rename_i v hx
   split at h
   ·rename_i e he
    simp only[Option.some.injEq] at h;subst h
    rw[dg (by rw[ho];rfl)]
    have:=Mn he
    simpa only[bD,ho,e1,hx] using this
   ·exact plain h
  ·cases h
 ·rename_i t parts ho
  split at h
  ·rename_i ps hps
   split at h
   ·rename_i e he
    simp only[Option.some.injEq] at h;subst h
    rw[dg (by rw[ho];rfl)]
    have:=Mo he
    simpa only[bD,ho,tC,hps] using this
   ·exact plain h
  ·cases h
 ·rename_i t x i ho
  split at h
  ·rename_i x' i' hx hi
   split at h
   ·rename_i e he
    simp only[Option.some.injEq] at h;subst h
    rw[dg (by rw[ho];rfl)]
    have:=Mp he
    simpa only[bD,ho,e2,hx,hi] using this
   ·exact plain h
  ·cases h
 ·rename_i s d x ho
  split at h
  ·rename_i f l hx
   split at h
   ·rename_i e he
    simp only[Option.some.injEq] at h;subst h
    rw[dg (by rw[ho];rfl)]
    have:=Mi he
    simpa only[bD,ho,e1,hx] using this
   ·exact plain h
  ·exact plain h
 ·rename_i t x i ho
  split at h
  ·rename_i s w hu hx hi
   split at h
   ·rename_i b k hk
    simp only[Option.some.injEq] at h;subst h
    intro hb
    rw[Bool.and_eq_true] at hb
    rw[dg (by rw[ho];rfl)]
    have hlt:k<s.length:=by rw[←aI];exact blt_iff.1 hb.2
    have hg:c7 s k=some (yv s k):=by rw[fb];simp[yv,hlt]
    simp[bD,ho,e2,hx,hi,aZ,oY hk hb.1,hu,hg,bW]
   ·cases h
  ·exact plain h
 ·rename_i t l c ho
  split at h
  ·rename_i l' c' hl hc
   rw[dg (by rw[ho];rfl)]
   have:=Mj h
   simpa only[bD,ho,e2,hl,hc] using this
  ·cases h
 ·rename_i t x lo hi mx ho
  split at h
  ·rename_i x' lo' hi' mx' h1 h2 h3 h4
   rw[dg (by rw[ho];rfl)]
   have e:bD P G ev o=gI P t x' lo' hi' mx':=by simp only[bD,ho,qX,h1,h2,h3,h4]
   rw[e]
   split at h
   ·rename_i es' he
    simp only[Option.some.injEq] at h;subst h
    exact DM he
   ·split at h
    ·rename_i e' he
     simp only[Option.some.injEq] at h;subst h
     exact he
    ·cases h
  ·cases h
 ·rename_i c ho
  split at h
  ·rename_i s x hc hargs
   rw[dg (by rw[ho];rfl)]
   have e:bD P G ev o=mt P c.argTypes s x:=by simp only[bD,ho,jj,hargs,hc,my]
   rw[e]
   split at h
   ·rename_i es' he
    simp only[Option.some.injEq] at h;subst h
    exact Mh he
   ·split at h
    ·rename_i e' he
     simp only[Option.some.injEq] at h;subst h
     exact he
    ·cases h
  ·rename_i d x hc hargs
   rw[dg (by rw[ho];rfl)]
   have e:bD P G ev o=mu P c.argTypes d x:=by simp only[bD,ho,jj,hargs,hc,my]
   rw[e]
   split at h
   ·rename_i es' he
    simp only[Option.some.injEq] at h;subst h
    exact Ml he
   ·split at h
    ·rename_i e' he
     simp only[Option.some.injEq] at h;subst h
     exact he
    ·cases h
  ·exact plain h
 ·exact plain h
variable {O:bi} {n:Nat} {A:be}
structure dq (P:Program) (O:bi) (A:be):Prop where
 cx:cb P O.glob A.cx∧cd A.cx
 sum:∀f args v,O.summ f args=some v→SemCall P O.glob f args v
 inl:∀f T,A.inl f=some T→∀args h nx K,T.run args h nx K→∃v h' nx',K v h' nx'∧BodySem P O.glob f args h nx v h' nx'
 cut:∀r C,A.cut r=some C→∀nx0 s K,C s K→∃s2,(∀w0 I0 α0 H0 D a w,(∀id,nx0≤id→α0 id=none)→CR O.glob w0 I0 α0 H0 nx0 D s a w→CR O.glob w0 I0 α0 H0 nx0 D s2 a w)∧K s2
theorem ur {G:aQ}:cb P G (fun _ _ _ _ _=>none)∧cd (fun _ _ _ _ _=>none):=by
 refine ⟨?_, ?_⟩
 ·intro f args rid H nx v H' nx' ft h;cases h
 ·intro f args id h nx v h' nx' ft hc;cases hc
abbrev m6 (P:Program) (G:aQ) (call:bd):Prop:=cb P G call∧cd call
theorem ut (B:dp P O n) {id d:Nat} {e:Eff} {h:ae} {nx:Nat} {K:AV→ae→Nat→Foot→Prop} (hk:gq P O n id d e h nx K):
  ∃call,m6 P O.glob call∧∃v h' nx' ft,a7 call id d e h nx=some (v,h',nx',ft)∧K v h' nx' ft:=by
 unfold gq at hk
 split at hk
 ·rename_i v h' nx' ft hr
  exact ⟨_,B.calls,v,h',nx',ft,hr,hk⟩
 ·exact hk.elim
theorem rW {call:bd} {id d:Nat} {f:FuncId} {args:List AV} {h:ae} {nx:Nat}:a7 call id d (.call f args) h nx=call f args id h nx:=by cases d<;>rfl
noncomputable def m7 (f0:FuncId) (args0:List AV) (L:List Nat) (H0:ae) (nx0:Nat) (v:AV) (H2:ae) (m:Nat):bd:=by
 classical exact fun f args _ h nx=>if f=f0∧args=args0∧nx=nx0∧cv h L=H0 then some (v,yG L H2 nx h,nx+m,⟨true,L,nx::L⟩) else none
theorem DP {G:aQ} {f0:FuncId} {args0:List AV} {L:List Nat} {H0:ae} {nx0:Nat} {v:AV} {H2:ae} {m:Nat} (hB:BodySem P G f0 args0 H0 nx0 v H2 (nx0+m)):cb P G (m7 f0 args0 L H0 nx0 v H2 m)∧cd (m7 f0 args0 L H0 nx0 v H2 m):=by
 refine ⟨?_, ?_⟩
 ·intro f args rid H nx v1 H' nx' ft hc w I α vs hr ha hrid hlt hf
  unfold m7 at hc
  split at hc
  ·rename_i he
   obtain ⟨rfl,rfl,rfl,rfl⟩:=he
   simp only[Option.some.injEq,Prod.mk.injEq] at hc
   obtain ⟨rfl,rfl,rfl,rfl⟩:=hc
   obtain ⟨e1,e2⟩:=hB w I α vs (t6 hr L) ha hf
   rw[e1]
   refine Calls.mono e2 ?_
   rintro e w' ⟨u,rfl,hp⟩
   exact ⟨u,rfl,Dk hr hf hp⟩
  ·cases hc
 ·intro f args id hp nx v1 h' nx' ft hc
  unfold m7 at hc
  split at hc
  ·rename_i he
   obtain ⟨rfl,rfl,rfl,rfl⟩:=he
   simp only[Option.some.injEq,Prod.mk.injEq] at hc
   obtain ⟨rfl,rfl,rfl,rfl⟩:=hc
   refine ⟨fun h=>(by cases h),fun _ n l hw=> ?_⟩
   simp only[List.cons.injEq] at hw
   obtain ⟨rfl,rfl⟩:=hw
   refine ⟨rfl,by omega,_,rfl,fun p hp=> ?_,fun h2 hk=> ?_⟩
   ·rw[ud] at hp
    rcases List.mem_append.1 hp with hp|hp
    ·exact .inl (ue hp).1
    ·exact .inr (rD hp).1
   ·have hC:cv h2 L=cv hp L:=rB _ fun i hi=>hk i (by simp[hi])
    unfold m7
    rw[if_pos ⟨rfl,rfl,rfl,hC⟩]
    rfl
  ·cases hc
theorem Mr {f:FuncId} {args:List AV} {h:ae} {nx id d:Nat} {K:AV→ae→Nat→Foot→Prop} {r:oV} (hk:oX P O f args h nx K r):
  ∃call,m6 P O.glob call∧∃v h' nx' ft,a7 call id d (.call f args) h nx=some (v,h',nx',ft)∧K v h' nx' ft:=by
 cases r with
 |val v=>exact ⟨_,yi hk.1,v,h,nx,_,by rw[rW];unfold ll;rw[if_pos ⟨rfl,rfl⟩],hk.2⟩
 |part L v H2 m=>exact ⟨_,DP (L:=L) hk.1,v,_,_,_,by rw[rW];unfold m7;rw[if_pos ⟨rfl,rfl,rfl,rfl⟩],hk.2⟩
theorem yM (B:dp P O n) (hA:dq P O A) {id:Nat}:∀ (d:Nat) (e:Eff) {h:ae} {nx:Nat} {K:AV→ae→Nat→Foot→Prop},fX P O n A id d e h nx K→
    ∃call,m6 P O.glob call∧∃v h' nx' ft,a7 call id d e h nx=some (v,h',nx',ft)∧K v h' nx' ft:=by
  have callCase:∀ (d:Nat) (f:FuncId) (args:List AV) {h:ae} {nx:Nat} {K:AV→ae→Nat→Foot→Prop},(match A.cx f args id h nx with
      |some (v,h',nx',ft)=>K v h' nx' ft
      | none=>match A.sem f args h nx with
       |some r=>oX P O f args h nx K r
       | none=>match A.inl f with
        |some T=>rQ args h nx K T
        |none=>match O.how f with
         | .pure=>match O.summ f args with
           |some v=>aC (ad args) (K v h nx ⟨false,[],[]⟩)
           |none=>gq P O n id d (.call f args) h nx K
         |_=>gq P O n id d (.call f args) h nx K)→∃call,m6 P O.glob call∧∃v h' nx' ft,a7 call id d (.call f args) h nx=some (v,h',nx',ft)∧K v h' nx' ft:=by
    intro d f args h nx K hk
    split at hk
    · rename_i v h' nx' ft hc
      exact ⟨_,hA.cx,v,h',nx',ft,by rw[rW];exact hc,hk⟩
    · split at hk
      · exact Mr hk
      split at hk
      · rename_i T hT
        obtain ⟨v,H2,nx2,hK,hB⟩:=hA.inl f T hT _ _ _ _ hk
        obtain ⟨hle,hK⟩:=oblB_iff.1 hK
        have hle:=Nat.le_of_ble_eq_true hle
        obtain ⟨m,rfl⟩:∃m,nx2=nx+m:=⟨nx2-nx,by omega⟩
        exact ⟨_,DP (L:=T.see args h) hB,v,_,_,_,by rw[rW];unfold m7;rw[if_pos ⟨rfl,rfl,rfl,rfl⟩],hK⟩
      split at hk
      · split at hk
        · rename_i v hs
          obtain ⟨_,hk⟩:=oblB_iff.1 hk
          exact ⟨_,yi (hA.sum f args v hs),v,h,nx,_,by rw[rW];unfold ll;rw[if_pos ⟨rfl,rfl⟩],hk⟩
        · exact ut B hk
      · exact ut B hk
  intro d
  induction d with
  | zero=>
    intro e h nx K hk
    unfold fX at hk
    split at hk
    · exact callCase 0 _ _ hk
    · exact ut B hk
  | succ d ih=>
    intro e h nx K hk
    unfold fX at hk
    split at hk
    · exact callCase (d+1) _ _ hk
    · rename_i i k
      split at hk
      · rename_i b hb
        split at hk
        · rename_i e' he
          obtain ⟨call,hc,v,h',nx',ft,hr,hK⟩:=ih e' hk
          exact ⟨call,hc,v,h',nx',_,by simp only[a7,hb,he,hr],hK⟩
        · exact hk.elim
      · exact hk.elim
    · exact ut B hk
def rY (P:Program) (G:aQ) (ops:List Oper) (id:Nat) (o:Oper) (s:St) (K:St→Foot→Prop):Prop:=
 ∃call,m6 P G call∧∃s' ft,de P G call ops id o s=some (s',ft)∧K s' ft
theorem ic {ops:List Oper} {id:Nat} {o:Oper} {s:St} {K:St→Foot→Prop} (hw:c8 ops o s.slots=some true) {call:bd} (hc:m6 P O.glob call) {e:Eff} (he:ca P O.glob ops (bq s.slots) o=some e)
  {v:AV} {h:ae} {nx:Nat} {ft:Foot} (hr:a7 call id 2 e s.heap s.nx=some (v,h,nx,ft)) (hk:K ⟨ce s.n s.slots o.dst v,h,nx,s.n⟩ ft):rY P O.glob ops id o s K:=
 ⟨call,hc,_,ft,by unfold de;simp only[hw,he,hr],hk⟩
theorem Ms (B:dp P O n) (hA:dq P O A) {ops:List Oper} {id:Nat} {o:Oper} {s:St} {K:St→Foot→Prop} (hw:c8 ops o s.slots=some true)
  (hk:rR P O n A id s.heap s.nx (fun v h nx ft=>K ⟨ce s.n s.slots o.dst v,h,nx,s.n⟩ ft) (oU P O.glob ops (bq s.slots) o)):rY P O.glob ops id o s K:=by
 cases hs:oU P O.glob ops (bq s.slots) o with
 |none=>rw[hs] at hk;exact hk.elim
 | some es=>
  rw[hs] at hk
  have hok:=Mq hs
  cases es with
  |eff e=>
   obtain ⟨call,hc,v,h',nx',ft,hr,hK⟩:=yM B hA 2 e hk
   exact ic hw hc hok hr hK
  |obl b e=>
   obtain ⟨hb,hk⟩:=oblB_iff.1 hk
   obtain ⟨call,hc,v,h',nx',ft,hr,hK⟩:=yM B hA 2 e hk
   exact ic hw hc (hok hb) hr hK
  | app b i k v=>
   obtain ⟨hb,hk⟩:=oblB_iff.1 hk
   obtain ⟨kk,he,hkk⟩:=hok hb
   split at hk
   ·rename_i l hl
    obtain ⟨hb2,hk⟩:=oblB_iff.1 hk
    exact ic hw B.calls he (by simp only[a7,hl,hkk l hb2]) hk
   ·exact hk.elim
  | put b i k v=>
   obtain ⟨hb,hk⟩:=oblB_iff.1 hk
   obtain ⟨kk,he,hkk⟩:=hok hb
   split at hk
   ·rename_i l hl
    obtain ⟨hb2,hk⟩:=oblB_iff.1 hk
    exact ic hw B.calls he (by simp only[a7,hl,hkk l hb2]) hk
   ·exact hk.elim
  | pick b x y=>
   simp only[rR] at hk
   split at hk
   ·split at hk
    ·exact ic hw B.calls ((hok.1 rfl).trans rfl) rfl hk
    ·exact hk.elim
   ·split at hk
    ·exact ic hw B.calls ((hok.2 rfl).trans rfl) rfl hk
    ·exact hk.elim
theorem Mt:mY P O (fun _ _ _ _ _=>none):=fun _ _ _ _ _ _ _ _ _ h=>by cases h
theorem Mu {G:aQ} {ops:List Oper} {ev:Operand→Option AV} {o:Oper} {r:AV} {p:Prop} (h:yH P ev o r=some p) (hp:p):ca P G ops ev o=some (.val r):=by
 unfold yH at h
 split at h
 ·rename_i s d x ho
  split at h
  ·rename_i v hx
   simp only[Option.some.injEq] at h;subst h
   rw[dg (by rw[ho];rfl)]
   simp only[bD,ho,e1,hx,hp]
  ·cases h
 ·rename_i t x i ho
  split at h
  ·rename_i v w hx hi
   simp only[Option.some.injEq] at h;subst h
   rw[dg (by rw[ho];rfl)]
   simp only[bD,ho,e2,hx,hi,hp,bW]
  ·cases h
 ·rename_i t x i ho
  split at h
  ·rename_i v w hx hi
   simp only[Option.some.injEq] at h;subst h
   rw[dg (by rw[ho];rfl)]
   simp only[bD,ho,e2,hx,hi,hp,bW]
  ·cases h
 ·rename_i t x lo hi mx ho
  split at h
  ·rename_i x' lo' hi' mx' h1 h2 h3 h4
   simp only[Option.some.injEq] at h;subst h
   rw[dg (by rw[ho];rfl)]
   simp only[bD,ho,qX,h1,h2,h3,h4,hp]
  ·cases h
 ·rename_i op t x y g ho
  split at h
  ·rename_i v w hx hi
   simp only[Option.some.injEq] at h;subst h
   rw[dg (by rw[ho];rfl)]
   simp only[bD,ho,e2,hx,hi,hp,bW]
  ·cases h
 ·rename_i c ho
  split at h
  ·rename_i b args hc ha
   simp only[Option.some.injEq] at h;subst h
   rw[dg (by rw[ho];rfl)]
   simp only[bD,ho,jj,ha,hc,hp]
  ·cases h
 ·cases h
theorem Mv (B:dp P O n) (hA:dq P O A) {ops:List Oper} {id:Nat} {o:Oper} {s:St} {K:St→Foot→Prop} {a:ez} (hw:c8 ops o s.slots=some true)
  (hk:iQ P O n A ops id o s (fun v h nx ft=>K ⟨ce s.n s.slots o.dst v,h,nx,s.n⟩ ft) a):rY P O.glob ops id o s K:=by
 unfold iQ at hk
 split at hk
 ·split at hk
  ·rename_i e he
   obtain ⟨call,hc,v,h',nx',ft,hr,hK⟩:=yM B hA 2 e hk
   exact ic hw hc he hr hK
  ·exact hk.elim
 ·split at hk
  ·rename_i a v h nx ft F ha
   obtain ⟨call,hc,hs⟩:=DB B.calls B.glob Mt hw ha hk.1
   exact ⟨call,hc,_,_,hs,hk.2⟩
  ·exact hk.elim
 ·rename_i v
  split at hk
  ·rename_i t x i ho
   split at hk
   ·rename_i f es w hx hi
    split at hk
    ·rename_i b k e hn he
     split at hk
     ·rename_i sz hsz
      obtain ⟨hg,hk⟩:=hk
      obtain ⟨hb,hk⟩:=oblB_iff.1 hk
      rw[Bool.and_eq_true] at hb
      refine ic (e:= .val (.fptr v.cells 0)) hw B.calls ?_ rfl hk
      rw[dg (by rw[ho];rfl)]
      have hu:P.underlying t=some (.slice e):=by
       unfold dB at he
       split at he
       ·simp only[Option.some.injEq] at he;subst he;assumption
       ·cases he
      have q1:=oY hn hb.1
      simp only[bD,ho,e2,hx,hi,ax,q1,hu,hsz,hg,hb.2,bW,Option.bind_eq_bind,Option.bind_some,if_true]
     ·exact hk.elim
    ·exact hk.elim
   ·exact hk.elim
  ·exact hk.elim
 ·rename_i v
  split at hk
  ·rename_i t a ho
   split at hk
   ·rename_i i off hx
    split at hk
    ·rename_i l hl
     obtain ⟨hp,hk⟩:=hk
     have he:∃k,ca P O.glob ops (bq s.slots) o=some (.read i k)∧k (.cells l)=some (.val v):=by
      rw[dg (by rw[ho];rfl)]
      simp only[bD,ho,e1,hx,eZ]
      exact ⟨_,rfl,by simp only[hp,Option.map_some]⟩
     obtain ⟨k,he,hkl⟩:=he
     exact ic hw B.calls he (by simp only[a7,hl,hkl]) hk
    ·exact hk.elim
   ·rename_i cs off hx
    obtain ⟨hp,hk⟩:=hk
    refine ic (e:= .val v) hw B.calls ?_ rfl hk
    rw[dg (by rw[ho];rfl)]
    simp only[bD,ho,e1,hx,eZ,hp,Option.map_some]
   ·rename_i g off hx
    obtain ⟨hp,hk⟩:=hk
    refine ic (e:= .val v) hw B.calls ?_ rfl hk
    rw[dg (by rw[ho];rfl)]
    simp only[bD,ho,e1,hx,hp]
   ·exact hk.elim
  ·exact hk.elim
 ·rename_i r
  split at hk
  ·rename_i p hp
   exact ic (e:= .val r) hw B.calls (Mu hp hk.1) rfl hk.2
  ·exact hk.elim
def KnOk (kn:Kn) (slots:Tr):Prop:=∀d b,kl kn d=some b→slots.get d=some (.bool b)
theorem Mw {kn:Kn} {slots:Tr} (h:KnOk kn slots):yI kn slots=bq slots:=by
 funext x
 unfold yI
 split
 ·split
  ·rename_i b hb
   simp only[bq,h _ b hb]
  ·rfl
 ·rfl
theorem Mx {kn:Kn} {k d:Nat} {b:Bool} (h:kl (rS kn k) d=some b):d≠k∧kl kn d=some b:=by
  induction kn with
  |nil=>cases h
  | cons p t ih=>
    obtain ⟨e,c⟩:=p
    simp only[rS] at h
    split at h
    · rename_i he
      have he:=beq_iff.1 he
      obtain ⟨h1,h2⟩:=ih h
      refine ⟨h1, ?_⟩
      simp only[kl]
      rw[beq_false_of (by rw[he];exact fun h=>h1 h.symm)]
      exact h2
    · rename_i he
      have he:=beq_false_iff.1 he
      simp only[kl] at h⊢
      split at h
      · rename_i hd
        have hd':=beq_iff.1 hd
        exact ⟨fun h'=>he (by omega),h⟩
      · exact ih h
 where
  beq_false_of {a b:Nat} (h:a≠b):Nat.beq a b=false:=beq_false_iff.2 h
theorem KnOk.put {kn:Kn} {slots:Tr} {n:Nat} {dst:Option Tmp} {v:AV} (h:KnOk kn slots):KnOk (km kn dst) (ce n slots dst v):=by
 intro d b hd
 cases dst with
 |none=>exact h d b hd
 |some e=>
  simp only[km] at hd
  obtain ⟨h1,h2⟩:=Mx hd
  simp only[ce]
  split
  ·rw[Tr.get_set_ne 12 slots v h1];exact h d b h2
  ·exact h d b h2
theorem KnOk.cons {kn:Kn} {slots:Tr} {d:Nat} {b:Bool} (h:KnOk kn slots) (hd:slots.get d=some (.bool b)):KnOk ((d,b)::kn) slots:=by
 intro k c hk
 simp only[kl] at hk
 split at hk
 ·rename_i he
  have he:=beq_iff.1 he
  subst he
  simp only[Option.some.injEq] at hk
  subst hk;exact hd
 ·exact h k c hk
def uu (P:Program) (G:aQ) (ops:List Oper) (id:Nat) (o:Oper) (s:St) (K:Kn→St→Foot→Prop):Prop:=
 rY P G ops id o s (fun s' ft=>∃kn',KnOk kn' s'.slots∧K kn' s' ft)
theorem My {ops:List Oper} {id:Nat} {o:Oper} {s:St} {K K':AV→ae→Nat→Foot→Prop} (h:K=K') {a:ez} (hk:iQ P O n A ops id o s K a):iQ P O n A ops id o s K' a:=h▸hk
theorem rZ (B:dp P O n) (hA:dq P O A) {rid:Nat} {ops:List Oper} {id i:Nat} {o:Oper} {s:St} {kn:Kn} {K:Kn→St→Foot→Prop} (hkn:KnOk kn s.slots) (hw:c8 ops o s.slots=some true) (hk:iR P O n A rid ops id i o s kn K):
  uu P O.glob ops id o s K:=by
 have fin:rY P O.glob ops id o s (fun s' ft=>s'.slots=s'.slots∧(∃v,s'.slots=ce s.n s.slots o.dst v)∧K (km kn o.dst) s' ft)→uu P O.glob ops id o s K:=fun ⟨c,h1,s',ft,h2,_,⟨v,hv⟩,h3⟩=>
  ⟨c,h1,s',ft,h2,km kn o.dst,by rw[hv];exact hkn.put,h3⟩
 refine fin ?_
 unfold iR at hk
 split at hk
 ·refine Mv B hA hw (My ?_ hk)
  funext v h nx ft
  simp only[true_and,eq_iff_iff]
  exact ⟨fun h=>⟨⟨v,rfl⟩,h⟩,fun h=>h.2⟩
 ·rw[Mw hkn] at hk
  refine Ms B hA hw (?_:rR P O n A id s.heap s.nx _ (oU P O.glob ops (bq s.slots) o))
  have:(fun v h nx ft=>K (km kn o.dst) ⟨ce s.n s.slots o.dst v,h,nx,s.n⟩ ft)=(fun v h nx ft=>(fun (s':St) (ft:Foot)=>s'.slots=s'.slots∧(∃v,s'.slots=ce s.n s.slots o.dst v)∧K (km kn o.dst) s' ft) ⟨ce s.n s.slots o.dst v,h,nx,s.n⟩ ft):=by
   funext v h nx ft
   simp only[true_and,eq_iff_iff]
   exact ⟨fun h=>⟨⟨v,rfl⟩,h⟩,fun h=>h.2⟩
  rw[←this]
  exact hk
theorem Mz (B:dp P O n) (hA:dq P O A) {rid:Nat} {ops:List Oper} {id i:Nat} {o:Oper} {s:St} {kn:Kn} {K:Kn→St→Foot→Prop} (hkn:KnOk kn s.slots) (hk:rT P O n A rid ops id i o s kn K):uu P O.glob ops id o s K:=by
 have no:∀ {kn:Kn},KnOk kn s.slots→c8 ops o s.slots=some false→m5 o s kn K→uu P O.glob ops id o s K:=fun {kn} hkn hw hk=>
  ⟨_,B.calls,_,_,by unfold de;simp only[hw],_,hkn.put,hk⟩
 unfold rT at hk
 split at hk
 ·rename_i hg
  exact rZ B hA hkn (by unfold c8;simp only[hg]) hk
 ·rename_i j want hg
  split at hk
  ·rename_i g hj
   split at hk
   ·rename_i d hd
    split at hk
    ·rename_i b hkb
     have hb:=hkn d b hkb
     split at hk
     ·split at hk
      ·exact rZ B hA hkn (by unfold c8;simp[hg,hj,hd,hb]) hk
      ·exact no hkn (by unfold c8;simp[hg,hj,hd,hb]) hk
     ·split at hk
      ·exact no hkn (by unfold c8;simp[hg,hj,hd,hb]) hk
      ·exact rZ B hA hkn (by unfold c8;simp[hg,hj,hd,hb]) hk
    ·split at hk
     ·rename_i b hb
      split at hk
      ·split at hk
       ·exact rZ B hA (hkn.cons hb) (by unfold c8;simp[hg,hj,hd,hb]) hk
       ·exact no (hkn.cons hb) (by unfold c8;simp[hg,hj,hd,hb]) hk
      ·split at hk
       ·exact no (hkn.cons hb) (by unfold c8;simp[hg,hj,hd,hb]) hk
       ·exact rZ B hA (hkn.cons hb) (by unfold c8;simp[hg,hj,hd,hb]) hk
     ·rename_i hb
      exact no hkn (by unfold c8;simp[hg,hj,hd,hb]) hk
     ·exact hk.elim
   ·exact hk.elim
  ·exact hk.elim
theorem DQ (B:dp P O n) (hA:dq P O A) {rid:Nat} {all:List Oper} {base:Nat}:∀ (rest:List Oper) (i:Nat) (s:St) (kn:Kn) (acc:List (Nat × Foot)) {K:St→List (Nat × Foot)→Prop},KnOk kn s.slots→rU P O n A rid all base rest i s kn acc K→
  ∃call,m6 P O.glob call∧∃s' feet,cX P O.glob call all base rest i s acc=some (s',feet)∧K s' feet
 |[],i,s,kn,acc,K,_,hk=>⟨_,B.calls,s,acc,rfl,hk⟩
 |o::rest,i,s,kn,acc,K,hkn,hk=>by
  simp only[rU] at hk
  obtain ⟨c1,h1,s1,ft,hs,kn',hkn',hk⟩:=Mz B hA hkn hk
  obtain ⟨c2,h2,s',feet,hr,hK⟩:=DQ B hA rest (i+1) s1 kn' _ hkn' hk
  refine ⟨gR (base+i) c1 c2,DC h1 h2,s',feet, ?_,hK⟩
  simp only[cX]
  rw[yk (call':=c1) (fun f args hp nx=>by unfold gR;rw[if_pos rfl]),hs]
  simp only
  rw[yl (call':=c2) rest (i+1) _ _ fun f args id hp nx hid=>by unfold gR;rw[if_neg (by omega)]]
  exact hr
def LsOk (P:Program) (G:aQ) (nx0:Nat) (A:be) (c:Code):Prop:=
 ∀r L,A.ls r=some L→∀b∈br c r,∀s Q,L s Q→AWp P G nx0 (.loop b) s Q
theorem DR {nx0:Nat} {body:Code} {W:St→(AExit→St→Prop)→Prop} (h:∀s Q,W s Q→AWp P O.glob nx0 body s Q):∀ (k:Nat) (s:St) (Q:AExit→St→Prop),un W k s Q→ARnd P O.glob nx0 body Q k s
 |0,_,_,hk=>hk
 |k+1,s,Q,hk=>(h s _ hk).mono fun e s' hq=>by
  cases e with
  |normal=>exact DR h k s' Q hq
  |exit i=>exact hq
  |ret=>exact hq
theorem DS {nx0:Nat} {c:Operand} {b:Bool} {s:St} {code:Code} {G:aQ} {Q:AExit→St→Prop} (hc:bq s.slots c=some (.bool b)) (h:AWp P G nx0 code (yJ c b s) Q):AWp P G nx0 code s Q:=by
 cases c with
 | tmp d=>
  have hg:∀k,(ce s.n s.slots (some d) (.bool b)).get k=s.slots.get k:=fun k=>by
   have hc:s.slots.get d=some (.bool b):=hc
   simp only[ce]
   split
   ·by_cases hk:k=d
    ·subst hk
     rcases Tr.get_set_self 12 s.slots (k:=k) (.bool b) with h|h
     ·rw[h,hc]
     ·exact h
    ·exact Tr.get_set_ne 12 s.slots _ hk
   ·rfl
  refine ⟨fun w0 I0 α0 H0 D a w hα hr=>h.out w0 I0 α0 H0 D a w hα ?_⟩
  obtain ⟨⟨I,α,ev,rel,hs,q1,q2,q3⟩,h7,h8,h9,h10,h11⟩:=hr
  exact ⟨⟨I,α,ev,rel,fun k v hv=>hs k v (by rw[←hg k];exact hv),q1,q2,q3⟩,h7,h8,h9,h10,h11⟩
 |_=>exact h
theorem yN {nx0:Nat} (B:dp P O n) (hA:dq P O A):∀ (c:Code) (s:St) (Q:AExit→St→Prop),LsOk P O.glob nx0 A c→aw P O n A c s Q→AWp P O.glob nx0 c s Q:=by
 intro c
 induction c with
 |skip=>exact fun s Q _ h=> .skip h
 |label l=>exact fun s Q _ h=> .label h
 |exit i=>exact fun s Q _ h=> .exit h
 |ret=>exact fun s Q _ h=> .ret h
 | region rid ops draw=>
  intro s Q _ h
  simp only[aw] at h
  have reg:∀ {s:St},rV P O n A rid ops draw s Q→AWp P O.glob nx0 (.region rid ops draw) s Q:=fun {s} h=>by
   unfold rV at h
   obtain ⟨call,⟨h1,h2⟩,s',feet,hr,hk⟩:=DQ B hA _ _ _ _ _ (fun _ _ h=>by cases h) h
   cases draw with
   |false=>exact .region B.mixed h1 h2 hr (fun h=>by cases h) hk
   |true=>
    obtain ⟨hb,hk⟩:=oblB_iff.1 hk
    rw[Bool.and_eq_true] at hb
    exact .region B.mixed h1 h2 hr (fun _=>hb) hk
  split at h
  ·rename_i C hC
   obtain ⟨s2,hs,hk⟩:=hA.cut rid C hC nx0 s _ h
   exact ⟨fun w0 I0 α0 H0 D a w hα hr=>(reg hk).out w0 I0 α0 H0 D a w hα (hs w0 I0 α0 H0 D a w hα hr)⟩
  ·exact reg h
 |seq a b iha ihb=>
  intro s Q hl h
  refine .seq ((iha s _ (fun r L hL b' hb=>hl r L hL b' (by simp[br,hb])) h).mono fun e s' hq=> ?_)
  cases e with
  |normal=>exact ihb s' Q (fun r L hL b' hb=>hl r L hL b' (by simp[br,hb])) hq
  |exit i=>exact hq
  |ret=>exact hq
 | cond c a b iha ihb=>
  intro s Q hl h
  simp only[aw] at h
  split at h
  ·rename_i t hc
   split at h
   ·exact .cond_true hc (DS hc (iha _ Q (fun r L hL b' hb=>hl r L hL b' (by simp[br,hb])) h))
   ·exact .cond_false hc (DS hc (ihb _ Q (fun r L hL b' hb=>hl r L hL b' (by simp[br,hb])) h))
  ·exact h.elim
 |block id body ih=>exact fun s Q hl h=> .block (ih s _ hl h)
 | loop body ih=>
  intro s Q hl h
  simp only[aw] at h
  split at h
  ·rename_i L hL
   exact hl _ L hL body (by simp[br]) s Q h
  ·exact .loop O.lf (DR (fun s Q h=>ih s Q (fun r L hL b' hb=>hl r L hL b' (by simp[br,hb])) h) _ _ _ h)
 |rangeFunc f p x y _ _=>exact fun s Q _ h=>h.elim
 |scope c _=>exact fun s Q _ h=>h.elim
 |goto l=>exact fun s Q _ h=>h.elim
 |refuse y=>exact fun s Q _ h=>h.elim
def jv (P:Program) (G:aQ) (nx0:Nat) (A:be) (f:FuncId):Prop:=∀fn c,P.funcs[f]? =some fn→fn.body=some c→LsOk P G nx0 A c
theorem MA {G:aQ} {nx0:Nat} {f:FuncId} (h:∀r,A.ls r=none):jv P G nx0 A f:=fun _ _ _ _ r L hL=>by rw[h] at hL;cases hL
theorem m8 {f:FuncId} {args:List AV} {H:ae} {nx:Nat} {Q:AV→ae→Nat→Prop} (B:dp P O n) (hA:dq P O A) (hl:jv P O.glob nx A f) (h:aL P O n A f args H nx Q):
  ∃fn c,P.funcs[f]? =some fn∧fn.body=some c∧(fn.name== "runtime.NumGoroutine")=false∧(Nat.ble (ab args) fn.ntmps&&Nat.ble fn.ntmps 4095)=true∧
   AWp P O.glob nx c ⟨dE args 0 .tip,H,nx,fn.ntmps⟩ (fun e s=>(e= .normal∨e= .ret)∧∃l,dC P O.glob s fn.results.toList=some l∧Q (dD l) s.heap s.nx):=by
 unfold aL at h
 split at h
 ·rename_i fn hfn
  split at h
  ·rename_i c hc
   split at h
   ·exact h.elim
   ·rename_i hname
    split at h
    ·exact h.elim
    ·rename_i hsz
     refine ⟨fn,c,hfn,hc,hname,hsz,(yN B hA c _ _ (hl fn c hfn hc) h).mono fun e s hq=> ?_⟩
     split at hq
     ·exact hq.elim
     ·rename_i hne
      split at hq
      ·rename_i l hl
       refine ⟨?_,l,hl,hq⟩
       cases e with
       |normal=>exact .inl rfl
       |ret=>exact .inr rfl
       |exit i=>exact absurd rfl (hne i)
      ·exact hq.elim
  ·exact h.elim
 ·exact h.elim
theorem r5 {f:FuncId} {args:List AV} {v:AV} (B:dp P O n) (hA:dq P O A) (hl:jv P O.glob 0 A f) (hcl:ad args=true)
  (h:aL P O n A f args [] 0 (fun u H _=>(∃d,aV 0 H d u=some v)∧ac v=true)):SemCall P O.glob f args v:=by
 obtain ⟨fn,c,hfn,hc,hname,hsz,hw⟩:=m8 B hA hl h
 refine DI B hfn hc hname hsz hcl fun w I a hr=>wp_mono (hw.out w I _ [] [] a w (fun _ _=>rfl) hr) ?_
 rintro e a' w' ⟨x,s',rfl,h2,hx,l,hl,hq⟩
 refine ⟨s',l, ?_,h2,hl,hq.1,hq.2⟩
 rcases hx with rfl|rfl
 ·exact .inl rfl
 ·exact .inr rfl
theorem yO {f:FuncId} {args:List AV} {H:ae} {nx:Nat} {v:AV} {H':ae} {nx':Nat} (B:dp P O n) (hA:dq P O A) (hl:jv P O.glob nx A f)
    (h:aL P O n A f args H nx (fun u h m=>u=v∧h=H'∧m=nx')):BodySem P O.glob f args H nx v H' nx':=by
  obtain ⟨fn,c,hfn,hc,hname,hsz,hw⟩:=m8 B hA hl h
  intro w I α vs r ha hf
  refine body_of_wp' hfn hc hname hsz (fun w I α a hα hr=>wp_mono (hw.out w I α H [] a w hα hr) ?_) w I α vs r ha hf
  rintro e a' w' ⟨x,s',rfl,h2,hx,l,hl,rfl,rfl,rfl⟩
  refine ⟨s',l, ?_,h2,hl,rfl,rfl,rfl⟩
  rcases hx with rfl|rfl
  · exact .inl rfl
  · exact .inr rfl
 where
  body_of_wp' {f:FuncId} {fn:Func} {c:Code} {args:List AV} {H:ae} {nx:Nat} {v:AV} {H':ae} {nx':Nat} (hfn:P.funcs[f]? =some fn) (hc:fn.body=some c) (hname:(fn.name== "runtime.NumGoroutine")=false) (hsz:(Nat.ble (ab args) fn.ntmps&&Nat.ble fn.ntmps 4095)=true)
    (h:∀w I α a,(∀id,nx≤id→α id=none)→CR O.glob w I α H nx [] ⟨dE args 0 .tip,H,nx,fn.ntmps⟩ a w→c.wp P (fun e a' w'=>∃s l,(c9 .normal=e∨c9 .ret=e)∧CR O.glob w I α H nx [] s a' w'∧dC P O.glob s fn.results.toList=some l∧dD l=v∧s.heap=H'∧s.nx=nx') a w):
    BodySem P O.glob f args H nx v H' nx':=by
    intro w I α vs r ha hf
    rw[Bool.and_eq_true,Nat.ble_eq,Nat.ble_eq,aI] at hsz
    refine ⟨?_, ?_⟩
    · unfold callFunc
      simp only[Sem.run_bind,run_program,Result.andThen_ok,hfn,hname,hc,Bool.false_eq_true,if_false,Option.isNone_some,Sem.run_pure]
    · refine calls_of_wp hfn hc ?_
      have hvs:args.length=vs.size:=by rw[ha.1];simp
      have hr0:CR O.glob w I α H nx [] ⟨dE args 0 .tip,H,nx,fn.ntmps⟩ {tmps:=vs++Array.replicate (fn.ntmps-vs.size) undef,defers:=[]} w:=
        ⟨⟨I,α,.refl,r,mP ha (by omega),fun i hi=>absurd hi (Nat.not_lt_zero i),hf,fun id h=> .inl h⟩,Nat.le_refl _,Nat.le_refl _,rfl,by simp;omega,hsz.2⟩
      refine wp_mono (h w I α _ hf hr0) fun e a' w' hq=> ?_
      obtain ⟨s,l,he,hr,hl,rfl,rfl,rfl⟩:=hq
      obtain ⟨⟨I',α',h1,h2,h3,_,_,h6⟩,_,h8,h9,_,_⟩:=hr
      obtain ⟨u,e1,e2⟩:=mQ (P:=P) (fn:=fn) h2 h3 hl
      rcases he with rfl|rfl<;>exact ⟨h9,u,e1,u,rfl,⟨I',α',h1,h2,e2,h6⟩,h8⟩
end
end Go.Proofs.Abs
/- Small laws of the abstract machine's functions: bytes, rows, numbers, what becomes part of a value. -/
namespace Go.Proofs.Abs
open Go
mutual
theorem yP {n:Nat} {h:ae}:∀ {d:Nat} {v r:AV},aV n h d v=some r→aV n h (d+1) v=some r
 |0,_,_,hv=>by simp[aV] at hv
 | d +1,v,r,hv=>by
  have L:∀ {l l':List AV},cm (aV n h d) l=some l'→cm (aV n h (d+1)) l=some l':=fun {l l'} hl=>yQ hl
  cases v with
  | ptr id off=>
   rw[aV] at hv⊢
   split at hv
   ·exact hv
   ·rename_i hb
    split at hv
    ·rename_i l hl
     try rw[hl]
     try simp only
     split at hv
     ·rename_i l' hl';rw[L hl'];exact hv
     ·cases hv
    ·cases hv
  | rsl own id off len sz=>
   rw[aV] at hv⊢
   split at hv
   ·exact hv
   ·rename_i hb
    split at hv
    ·rename_i l hl
     try rw[hl]
     try simp only
     split at hv
     ·rename_i es hes
      split at hv
      ·rename_i l' hl';rw[L hl'];exact hv
      ·cases hv
     ·cases hv
    ·cases hv
  |fptr cs off=>
   rw[aV] at hv⊢
   split at hv
   ·rename_i l' hl';rw[L hl'];exact hv
   ·cases hv
  |fsl f es=>
   rw[aV] at hv⊢
   split at hv
   ·rename_i l' hl';rw[L hl'];exact hv
   ·cases hv
  |agg cs=>
   rw[aV] at hv⊢
   split at hv
   ·rename_i l' hl';rw[L hl'];exact hv
   ·cases hv
  |tuple cs=>
   rw[aV] at hv⊢
   split at hv
   ·rename_i l' hl';rw[L hl'];exact hv
   ·cases hv
  |func fn a b=>
   rw[aV] at hv⊢
   split at hv
   ·rename_i a' b' ha hb;rw[L ha,L hb];exact hv
   ·cases hv
  |iface t v=>
   rw[aV] at hv⊢
   split at hv
   ·rename_i l' hl';rw[yP hl'];exact hv
   ·cases hv
  |_=>exact hv
theorem yQ {n:Nat} {h:ae} {d:Nat}:∀ {l l':List AV},cm (aV n h d) l=some l'→cm (aV n h (d+1)) l=some l'
 |[],_,hl=>by simpa [cm] using hl
 | a::t,l',hl=>by
  simp only[cm] at hl⊢
  split at hl
  ·rename_i b hb
   split at hl
   ·rename_i u hu
    simp only[yP hb,yQ hu];exact hl
   ·cases hl
  ·cases hl
end
theorem MB {n:Nat} {h:ae} {d e:Nat} {v r:AV} (hd:d≤e) (hv:aV n h d v=some r):aV n h e v=some r:=by
 induction hd with
 |refl=>exact hv
 |step _ ih=>exact yP ih
theorem yR {n:Nat} {h:ae} {d e:Nat} {l l':List AV} (hd:d≤e) (hl:cm (aV n h d) l=some l'):cm (aV n h e) l=some l':=by
 induction hd with
 |refl=>exact hl
 |step _ ih=>exact yQ ih
structure Frz (n:Nat) (h:ae) (v r:AV):Prop where
 out:∃d,aV n h d v=some r
structure FrzL (n:Nat) (h:ae) (l l':List AV):Prop where
 out:∃d,cm (aV n h d) l=some l'
theorem FrzL.nil {n:Nat} {h:ae}:FrzL n h [] []:=⟨0,rfl⟩
theorem FrzL.cons {n:Nat} {h:ae} {a b:AV} {t u:List AV} (h1:Frz n h a b) (h2:FrzL n h t u):FrzL n h (a::t) (b::u):=by
 obtain ⟨d,h1⟩:=h1
 obtain ⟨e,h2⟩:=h2
 exact ⟨max d e,by simp only[cm,MB (Nat.le_max_left d e) h1,yR (Nat.le_max_right d e) h2]⟩
theorem FrzL.append {n:Nat} {h:ae}:∀ {a b c d:List AV},FrzL n h a b→FrzL n h c d→FrzL n h (a++c) (b++d)
 |[],b,_,_,h1,h2=>by
  obtain ⟨e,h1⟩:=h1
  simp only[cm,Option.some.injEq] at h1
  subst h1;exact h2
 | x::t,b,c,d,h1,h2=>by
  obtain ⟨e,h1⟩:=h1
  simp only[cm] at h1
  split at h1
  ·rename_i y hy
   split at h1
   ·rename_i u hu
    simp only[Option.some.injEq] at h1
    subst h1
    exact FrzL.cons ⟨e,hy⟩ (FrzL.append ⟨e,hu⟩ h2)
   ·cases h1
  ·cases h1
theorem Frz.agg {n:Nat} {h:ae} {l l':List AV} (hl:FrzL n h l l'):Frz n h (.agg l) (.agg l'):=by
 obtain ⟨d,hl⟩:=hl;exact ⟨d+1,by simp only[aV,hl]⟩
theorem Frz.tuple {n:Nat} {h:ae} {l l':List AV} (hl:FrzL n h l l'):Frz n h (.tuple l) (.tuple l'):=by
 obtain ⟨d,hl⟩:=hl;exact ⟨d+1,by simp only[aV,hl]⟩
theorem Frz.fsl {n:Nat} {h:ae} {f:Bool} {l l':List AV} (hl:FrzL n h l l'):Frz n h (.fsl f l) (.fsl f l'):=by
 obtain ⟨d,hl⟩:=hl;exact ⟨d+1,by simp only[aV,hl]⟩
theorem Frz.fptr {n:Nat} {h:ae} {o:Nat} {l l':List AV} (hl:FrzL n h l l'):Frz n h (.fptr l o) (.fptr l' o):=by
 obtain ⟨d,hl⟩:=hl;exact ⟨d+1,by simp only[aV,hl]⟩
theorem Frz.rsl {n:Nat} {h:ae} {own:Bool} {id off len sz:Nat} {c es l':List AV} (hn:Nat.blt id n=false) (hg:hget h id=some (.cells c)) (hc:j8 sz len (c.drop off)=some es) (hl:FrzL n h es l'):Frz n h (.rsl own id off len sz) (.fsl false l'):=by
 obtain ⟨d,hl⟩:=hl;exact ⟨d+1,by simp only[aV,hn,hg,hc,hl]⟩
theorem Frz.ptr {n:Nat} {h:ae} {id off:Nat} {c l':List AV} (hn:Nat.blt id n=false) (hg:hget h id=some (.cells c)) (hl:FrzL n h c l'):Frz n h (.ptr id off) (.fptr l' off):=by
 obtain ⟨d,hl⟩:=hl;exact ⟨d+1,by simp only[aV,hn,hg,hl]⟩
theorem Frz.keepR {n:Nat} {h:ae} {own:Bool} {id off len sz:Nat} (hn:Nat.blt id n=true):Frz n h (.rsl own id off len sz) (.rsl own id off len sz):=⟨1,by simp only[aV,hn]⟩
theorem Frz.keepP {n:Nat} {h:ae} {id off:Nat} (hn:Nat.blt id n=true):Frz n h (.ptr id off) (.ptr id off):=⟨1,by simp only[aV,hn]⟩
mutual
theorem Frz.closed {n:Nat} {h:ae}:∀ (v:AV),ac v=true→Frz n h v v
 | .ptr _ _,hc=>by simp[ac] at hc
 | .rsl _ _ _ _ _,hc=>by simp[ac] at hc
 | .map _,hc=>by simp[ac] at hc
 | .fptr cs _,hc=> .fptr (FrzL.closed cs (by simpa [ac] using hc))
 | .fsl _ cs,hc=> .fsl (FrzL.closed cs (by simpa [ac] using hc))
 | .agg cs,hc=> .agg (FrzL.closed cs (by simpa [ac] using hc))
 | .tuple cs,hc=> .tuple (FrzL.closed cs (by simpa [ac] using hc))
 | .func fn a b,hc=>by
  simp only[ac,Bool.and_eq_true] at hc
  obtain ⟨d,h1⟩:=FrzL.closed (n:=n) (h:=h) a hc.1
  obtain ⟨e,h2⟩:=FrzL.closed (n:=n) (h:=h) b hc.2
  exact ⟨max d e+1,by simp only[aV,yR (Nat.le_max_left d e) h1,yR (Nat.le_max_right d e) h2]⟩
 | .iface t v,hc=>by
  obtain ⟨d,h1⟩:=Frz.closed (n:=n) (h:=h) v (by simpa [ac] using hc)
  exact ⟨d+1,by simp only[aV,h1]⟩
 | .bool _,_=>⟨1,rfl⟩
 | .int _ _,_=>⟨1,rfl⟩
 | .str _,_=>⟨1,rfl⟩
 | .nilp,_=>⟨1,rfl⟩
 | .gptr _ _,_=>⟨1,rfl⟩
 | .nilsl,_=>⟨1,rfl⟩
 | .nesl,_=>⟨1,rfl⟩
 | .nilmap,_=>⟨1,rfl⟩
 | .nilFunc,_=>⟨1,rfl⟩
 | .nilIface,_=>⟨1,rfl⟩
theorem FrzL.closed {n:Nat} {h:ae}:∀ (l:List AV),ad l=true→FrzL n h l l
 |[],_=> .nil
 |a::t,hc=>by
  simp only[ad,Bool.and_eq_true] at hc
  exact .cons (Frz.closed a hc.1) (FrzL.closed t hc.2)
end
def fc (sz:Nat) (e:AV):Prop:=e.cells.length=sz∧kR e.cells=e
theorem yS {sz:Nat}:∀ {es:List AV} (r:List AV),(∀e∈es,fc sz e)→j8 sz es.length (flat es++r)=some es
 |[],r,_=>rfl
 | e::t,r,h=>by
  obtain ⟨h1,h2⟩:=h e (by simp)
  have ih:=yS (es:=t) r fun x hx=>h x (by simp[hx])
  have hc:chunk (flat (e::t)++r) 0 sz=some e.cells:=by
   rw[uq _ _ _ (by simp only[flat,List.length_append];omega)]
   simp only[flat,List.drop_zero,List.append_assoc]
   rw[List.take_left' h1]
  simp only[List.length_cons,j8,hc]
  have hd:(flat (e::t)++r).drop sz=flat t++r:=by
   simp only[flat,List.append_assoc]
   rw[List.drop_left' h1]
  rw[hd,ih,h2]
  rfl
theorem Frz.row {n:Nat} {h:ae} {own:Bool} {id len sz:Nat} {c es:List AV} (hn:Nat.blt id n=false) (hg:hget h id=some (.cells c)) (hc:c=flat es) (hl:len=es.length) (hes:∀e∈es,fc sz e) (hcl:ad es=true):Frz n h (.rsl own id 0 len sz) (.fsl false es):=by
 subst hc hl
 refine .rsl hn hg ?_ (FrzL.closed es hcl)
 have:=yS (es:=es) [] hes
 simpa using this
theorem o3:∀s:List UInt8,ap s=s.map fun b=> .int .u8 (.ofNat b.toNat)
 |[]=>rfl
 |b::t=>by simp only[ap,List.map_cons,o3 t]
@[simp] theorem uv (s:List UInt8):ab (ap s)=s.length:=by rw[aI,o3];simp
@[simp] theorem DT (s:List UInt8):flat (ap s)=ap s:=(xL s).1
@[simp] theorem MC:∀s:List UInt8,e9 (ap s)=some s
 |[]=>rfl
 | b::t=>by
  have e:UInt8.ofNat (Int.ofNat b.toNat).toNat=b:=by
   show UInt8.ofNat b.toNat=b
   exact UInt8.ofNat_toNat
  simp only[ap,e9,MC t,Option.map_some,e]
@[simp] theorem Wl (s:List UInt8):oT (ap s)=s:=by simp[oT]
@[simp] theorem gu:∀s:List UInt8,ad (ap s)=true
 |[]=>rfl
 |b::t=>by simp only[ap,ad,ac,gu t,Bool.and_self]
@[simp] theorem MD:∀s:List UInt8,aS (ap s)=true
 |[]=>rfl
 |b::t=>by simp only[ap,aS,AV.one,MD t,Bool.and_self]
@[simp] theorem ME:∀s:List UInt8,bo 1 (ap s)=true
 |[]=>rfl
 |b::t=>by
  have e:ab (AV.int .u8 (.ofNat b.toNat)).cells=1:=rfl
  simp only[ap,bo,ME t,e,Nat.beq_refl,Bool.and_self]
@[simp] theorem Wm (s:List UInt8):mn 1 (ap s)=true:=by cases s<;>rfl
theorem MF {s:List UInt8}:∀e∈ap s,fc 1 e:=by
 intro e he
 rw[o3,List.mem_map] at he
 obtain ⟨b,_,rfl⟩:=he
 exact ⟨rfl,rfl⟩
theorem DU:∀n:Nat,dk (.int .u8 0) n=ap (List.replicate n 0)
 |0=>rfl
 |n+1=>by
  simp only[dk,List.replicate_succ,ap,DU n]
  rfl
theorem Frz.bytes {n:Nat} {h:ae} {own:Bool} {id len:Nat} {c:List AV} {s:List UInt8} (hn:Nat.blt id n=false) (hg:hget h id=some (.cells c)) (hc:c=ap s) (hl:len=s.length):Frz n h (.rsl own id 0 len 1) (.fsl false (ap s)):=
 .row hn hg (by rw[hc,DT]) (by rw[hl,o3];simp) MF (gu s)
theorem dh {a b:List AV}:ad (a++b)=(ad a&&ad b):=by
 induction a with
 |nil=>simp[ad]
 |cons x t ih=>simp[ad,ih,Bool.and_assoc]
theorem gv:∀ (a b:List AV),flat (a++b)=flat a++flat b
 |[],b=>rfl
 |x::t,b=>by simp only[List.cons_append,flat,gv t b,List.append_assoc]
theorem ltInt_iff {a b:Int}:ar a b=true↔a<b:=by rw[jo];simp
theorem ltInt_false {a b:Int}:ar a b=false↔b≤a:=by rw[jo];simp
theorem beqInt_iff {a b:Int}:aF a b=true↔a=b:=by rw[kf];simp
theorem beqInt_false {a b:Int}:aF a b=false↔a≠b:=by rw[kf];simp
theorem beqBytes_iff {a b:List UInt8}:aB a b=true↔a=b:=by rw[oE];simp
theorem co {n:Int} (h1: -9223372036854775808≤n) (h2:n≤9223372036854775807):af .i64 n=n:=by
 rw[ke];exact IntWalk.i64_in _ ⟨by omega,by omega⟩
end Go.Proofs.Abs
/- What arguments are: numbers, texts, slices of plain elements. -/
namespace Go.Proofs.Abs
open Go
theorem DV {α:Type} {Q:Nat→α→Prop}:∀ (n:Nat),(∀i,i<n→∃x,Q i x)→∃l:List α,l.length=n∧∀i x,l[i]? =some x→Q i x
 |0,_=>⟨[],rfl,by simp⟩
 | n+1,h=>by
  obtain ⟨l,h1,h2⟩:=DV n fun i hi=>h i (by omega)
  obtain ⟨x,hx⟩:=h n (by omega)
  refine ⟨l++[x],by simp[h1],fun i y hy=> ?_⟩
  rcases Nat.lt_or_ge i n with hi|hi
  ·rw[List.getElem?_append_left (by omega)] at hy
   exact h2 i y hy
  ·rw[List.getElem?_append_right (by omega)] at hy
   have:i-l.length=0:=by
    have:=(List.getElem?_eq_some_iff.1 hy).1
    simp at this;omega
   rw[this] at hy
   simp at hy;subst hy
   have:i=n:=by omega
   subst this;exact hx
theorem yT {a:Addr} (h:a.spot=none) (n:Nat):a.add n=⟨a.block,a.off+n,none⟩:=by
 obtain ⟨b,o,s⟩:=a
 simp only at h;subst h
 unfold Addr.add
 split
 ·rename_i h0;subst h0;rfl
 ·rfl
section
variable {H:Type} {enc:TypeId × Value→H} {P:Program} {w:World} {base:Nat} {spare:Nat→Bool} {held:Bool} {t e:TypeId} {v:Value} {d:DataW H} {ps:List MemPlace}
theorem open_int {k:IntKind} (ht:P.underlying t=some (.int k)) (hok:Value.okWide P w .any base t v) (h:DataW.Trod enc P w 0 spare held t v d ps):∃n:Int,v= .int k n∧k.min≤n∧n≤k.max:=by
 obtain ⟨fuel,hd⟩:=h
 obtain ⟨n,e1,_,h2⟩:=DataW.trod_int ht hd
 have h2:k.min≤n∧n≤k.max:=by simpa [Lit.wf] using h2
 refine ⟨n, ?_,h2⟩
 simp only[Value.okWide,ht] at hok
 cases v with
 |agg cs=>simp[Cell.okWide,Cell.ok,ht] at hok
 |int k' n'=>simp only[Value.cells,List.cons.injEq] at e1;simpa using e1
 |_=>simp[Value.cells] at e1
def DW (H:Type) (enc:TypeId × Value→H) (P:Program) (w:World) (spare:Nat→Bool) (held:Bool) (e:TypeId) (m:Nat) (p:List AV→Prop):Prop:=
 P.cellsOf e=m∧0<m∧∀ (fuel:Nat) (cs:List Value) (x:DataW H × List MemPlace),cs.length=m→DataW.trod enc P w 0 spare held fuel e cs=some x→∃l,RepL w (fun b=>b<w.heap.size) (fun _=>none) l cs∧p l
theorem yU {a:Addr} {n:Nat} {cs:List Value} (h:w.cells? 0 a n=some cs):cs.length=n∧∀j,j<n→w.cell? (a.add j)=cs[j]? :=by
 unfold World.cells? at h
 rw[if_pos (Nat.zero_le _)] at h
 refine ⟨by simpa using mapM_some_length h,fun j hj=> ?_⟩
 exact mapM_some_get h j j (by simp[hj])
theorem MG {m:Nat} {p:List AV→Prop} (ht:P.underlying t=some (.slice e)) (he:DW H enc P w spare held e m p) (hok:Value.okWide P w .any base t v) (h:DataW.Trod enc P w 0 spare held t v d ps):
  v= .slice none 0 0∨∃ess:List (List AV),Rep w (fun b=>b<w.heap.size) (fun _=>none) (.fsl false (ess.map kR)) v∧(∀c∈ess,p c∧c.length=m)∧ess.length≤maxLen:=by
 obtain ⟨hm,hpos,hread⟩:=he
 obtain ⟨fuel,hd⟩:=h
 simp only[Value.okWide,ht] at hok
 have hv:v.cells.toList=[v]:=by
  cases v with
  |agg cs=>simp[Cell.okWide,Cell.ok,ht] at hok
  |_=>rfl
 rw[hv] at hd
 rcases DataW.trod_slice ht hd with ⟨e1,_⟩|⟨a,len,cap,elems,rest,n,_,e1,_,_,hlc,hcap,hel,hget,_,_⟩
 ·left;simpa using e1
 ·right
  have e1:v= .slice (some a) len cap:=by simpa using e1
  subst e1
  have hspot:a.spot=none:=by
   simp only[Cell.okWide,Cell.ok,ht,World.has] at hok
   exact hok.2.2.2.1
  rw[hm] at hget
  have each:∀i,i<len→∃x:List AV × List Value,w.cells? 0 (a.add (i*m)) m=some x.2∧RepL w (fun b=>b<w.heap.size) (fun _=>none) x.1 x.2∧p x.1∧x.1.length=m:=fun i hi=>by
   have h1:=hget i hi
   have h2:elems[i]? ≠none:=by
    rw[List.getElem?_eq_getElem (by omega)];simp
   cases hc:w.cells? 0 (a.add (i*m)) m with
   |none=>rw[hc] at h1;exact absurd h1.symm h2
   | some cs=>
    rw[hc] at h1
    simp only[Option.bind_some] at h1
    cases hx:elems[i]? with
    |none=>exact absurd hx h2
    |some x=>
     rw[hx] at h1
     obtain ⟨l,hl,hp⟩:=hread n cs x (yU hc).1 h1
     exact ⟨(l,cs),rfl,hl,hp,by rw[hl.1];exact (yU hc).1⟩
  obtain ⟨xs,hlen,hxs⟩:=DV len each
  refine ⟨xs.map (·.1), ?_,fun c hc=> ?_, ?_⟩
  ·have hat:∀ (i:Nat) (u:AV),(List.map kR (xs.map (·.1)))[i]? =some u→∃x:List AV × List Value,xs[i]? =some x∧u=kR x.1:=fun i u hu=>by
    rw[List.getElem?_map,List.getElem?_map] at hu
    cases hx:xs[i]? with
    |none=>rw[hx] at hu;cases hu
    |some x=>rw[hx] at hu;exact ⟨x,rfl,by simpa using hu.symm⟩
   refine .fsl false _ (some a) len cap m a.block a.off (fun i j=>((xs[i]?.map (·.2)).getD [])[j]?.getD default) (by simp[hlen]) hlc (fun h=>by cases h) (.inl (by rw[←hspot])) (fun hne=> ?_) (fun u hu=> ?_) (fun i u j c hu hc=> ?_) (fun i u j c hu hc=> ?_)
   ·have hpos':0<len:=by
     rcases Nat.eq_zero_or_pos len with h0|h0
     ·have:xs=[]:=List.length_eq_zero_iff.1 (by omega)
      subst this;exact absurd rfl hne
     ·exact h0
    obtain ⟨x,hx⟩:∃x,xs[0]? =some x:=⟨xs[0]'(by omega),List.getElem?_eq_getElem (by omega)⟩
    have:=World.cells?_block (hxs 0 x hx).1 hpos
    rw[yT hspot] at this
    exact this
   ·obtain ⟨i,hi⟩:=List.getElem?_of_mem hu
    obtain ⟨x,hx,rfl⟩:=hat i u hi
    rw[ru];exact (hxs i x hx).2.2.2
   ·obtain ⟨x,hx,rfl⟩:=hat i u hu
    rw[ru] at hc
    obtain ⟨h1,h2,h3,h4⟩:=hxs i x hx
    obtain ⟨y,hy,_⟩:=h2.get hc
    have hj:j<m:=by rw[←h4];exact (List.getElem?_eq_some_iff.1 hc).1
    have:=(yU h1).2 j hj
    rw[yT hspot,yT rfl] at this
    simp only[hx,Option.map_some,Option.getD_some,hy]
    rw[this,hy]
   ·obtain ⟨x,hx,rfl⟩:=hat i u hu
    rw[ru] at hc
    obtain ⟨h1,h2,h3,h4⟩:=hxs i x hx
    obtain ⟨y,hy,hr⟩:=h2.get hc
    simpa only[hx,Option.map_some,Option.getD_some,hy] using hr
  ·obtain ⟨x,hx,rfl⟩:=List.mem_map.1 hc
   obtain ⟨i,hi⟩:=List.getElem?_of_mem hx
   exact (hxs i x hi).2.2
  ·simp only[List.length_map,hlen];exact Nat.le_trans hlc hcap
theorem MH {i:TypeId} {k:IntKind} {f0 f1 f2 f3:Field} (ht:P.underlying e=some (.struct #[f0,f1,f2,f3])) (h0:f0.type=i∧f0.offset=0) (h1:f1.type=i∧f1.offset=1) (h2:f2.type=i∧f2.offset=2) (h3:f3.type=i∧f3.offset=3)
  (he:P.underlying i=some (.int k)) (hc:P.cellsOf i=1) (hs:P.cellsOf e=4):DW H enc P w spare held e 4 fun l=>∃a b c z:Int,l=[.int k a,.int k b,.int k c,.int k z]∧(k.min≤a∧a≤k.max)∧(k.min≤b∧b≤k.max)∧(k.min≤c∧c≤k.max)∧(k.min≤z∧z≤k.max):=by
 refine ⟨hs,by omega,fun fuel cs x hl h=> ?_⟩
 obtain ⟨xs,n,_,_,_,hxl,hel⟩:=DataW.trod_struct ht h
 have at':∀ (j:Nat) (f:Field),j<4→ #[f0,f1,f2,f3][j]? =some f→f.type=i→f.offset=j→∃z,cs[j]? =some (.int k z)∧k.min≤z∧z≤k.max:=fun j f hj hf hte ho=>by
  have hE:=hel j f hf
  rw[hte,hc,ho,List.getElem?_eq_getElem (by rw[hxl];simpa using hj)] at hE
  obtain ⟨z,e1,_,hw⟩:=DataW.trod_int he hE
  have e7:((cs.drop j).take 1)[0]? =some (.int k z):=by rw[e1];rfl
  rw[List.getElem?_take_of_lt (by omega),List.getElem?_drop] at e7
  exact ⟨z,by simpa using e7,by simpa [Lit.wf] using hw⟩
 obtain ⟨a,ha,wa⟩:=at' 0 f0 (by omega) rfl h0.1 h0.2
 obtain ⟨b,hb,wb⟩:=at' 1 f1 (by omega) rfl h1.1 h1.2
 obtain ⟨c,hc',wc⟩:=at' 2 f2 (by omega) rfl h2.1 h2.2
 obtain ⟨z,hz,wz⟩:=at' 3 f3 (by omega) rfl h3.1 h3.2
 refine ⟨[.int k a,.int k b,.int k c,.int k z], ?_,a,b,c,z,rfl,wa,wb,wc,wz⟩
 have:cs=[.int k a,.int k b,.int k c,.int k z]:=by
  apply List.ext_getElem?
  intro j
  match j with
  |0=>exact ha
  |1=>exact hb
  |2=>exact hc'
  |3=>exact hz
  |j+4=>rw[List.getElem?_eq_none (by omega),List.getElem?_eq_none (by simp)]
 subst this
 exact .cons (.int _ _) (.cons (.int _ _) (.cons (.int _ _) (.cons (.int _ _) .nil)))
end
end Go.Proofs.Abs
/- States seen anew, with rows that are written no more made part of the values. -/
namespace Go.Proofs.Abs
open Go
def o4 (m:Nat) (h:ae):Blk→Blk→Prop
 | .cells l,.cells l'=>FrzL m h l l'
 | .siter s p,.siter s' p'=>s=s'∧p=p'
 | .mapb c s l,.mapb c' s' l'=>c=c'∧s=s'∧∃d,oB (aV m h d) l=some l'
 | .miter m a b c,.miter m' a' b' c'=>m=m'∧a=a'∧b=b'∧c=c'
 |_,_=>False
section
variable {G:aQ} {w:World} {I:Nat→Prop} {α:Nat→Option Nat} {H:ae}
theorem DX {m b:Nat} {b0 b1:Blk} (r:Rel G w I α H) (hf:o4 m H b0 b1) (h:BRel w I α b b0):BRel w (dO I α H m) α b b1:=by
 cases b0 with
 | cells l=>cases b1 with
  |cells l'=>
   obtain ⟨d,hl'⟩:=hf
   obtain ⟨c,e,h1,h2,h3⟩:=h
   have hlen:=(kZ hl').1
   have h4:=(jr r m d).list hl' h3
   exact ⟨c,e,h1,by rw[hlen];exact h2,by rw[hlen];exact h4⟩
  |_=>exact hf.elim
 |siter s p=>cases b1 with
  |siter s' p'=>obtain ⟨rfl,rfl⟩:=hf;exact h
  |_=>exact hf.elim
 |miter m a b c=>cases b1 with
  |miter m' a' b' c'=>obtain ⟨rfl,rfl,rfl,rfl⟩:=hf;exact h
  |_=>exact hf.elim
 | mapb c s l=>cases b1 with
  |mapb c' s' l'=>
   obtain ⟨rfl,rfl,d,hes⟩:=hf
   obtain ⟨en,h1,h2,h4,h3⟩:=h
   obtain ⟨k1,k2⟩:=x8 (jr r m d) hes
   refine ⟨en,h1,by rw[k1];exact h2,h4,fun i x' y e1 e2=> ?_⟩
   obtain ⟨x,g1,g2,g3⟩:=k2 i x' e1
   obtain ⟨q1,q2⟩:=h3 i x y g1 e2
   exact ⟨g2 _ q1,g3 _ q2⟩
  |_=>exact hf.elim
end
section
variable {G:aQ} {w0:World} {I0:Nat→Prop} {α0:Nat→Option Nat} {H0:ae} {nx0:Nat} {D:List Deferred}
theorem CR.freeze {s s2:St} {a:Act} {w:World} (m:Nat) (h:CR G w0 I0 α0 H0 nx0 D s a w) (hn:s2.n=s.n) (hnx:s2.nx=s.nx)
  (hS:∀k v,s2.slots.get k=some v→∃u,s.slots.get k=some u∧Frz m s.heap u v)
  (hH:∀i b,hget s2.heap i=some b→i<m∧∃b1,hget s.heap i=some b1∧o4 m s.heap b1 b):CR G w0 I0 α0 H0 nx0 D s2 a w:=by
 obtain ⟨⟨I,α,ev,rel,hs,_,hf,hnew⟩,h7,h8,h9,h10,h11⟩:=h
 have hlive:∀i,hget s2.heap i≠none→i<m∧hget s.heap i≠none:=fun i hi=>by
  cases hb:hget s2.heap i with
  |none=>exact absurd hb hi
  |some b=>
   obtain ⟨h1,b1,h2,_⟩:=hH i b hb
   exact ⟨h1,by rw[h2];simp⟩
 have hown:∀b,cg α s2.heap b→cg α s.heap b:=fun b ⟨i,h1,h2⟩=>⟨i,(hlive i h1).2,h2⟩
 refine ⟨⟨dO I α s.heap m,α,⟨ev.os,fun b hb=> .inl (ev.I_mono b hb),ev.α_mono,ev.size,ev.frame,ev.shape,fun b hb=> ?_,fun b hb=>ev.own b (hown b hb)⟩, ?_, ?_,fun i hi=>absurd hi (Nat.not_lt_zero i),fun id hid=>hf id (by rw[hnx] at hid;exact hid),fun id hid=> ?_⟩,Nat.le_refl _,by rw[hnx];exact h8,h9,by rw[hn];exact h10,by rw[hn];exact h11⟩
 ·rcases hb with hb|⟨id,_,h2,h3⟩
  ·exact ev.Inew b hb
  ·rcases ev.own b ⟨id,h2,h3⟩ with h|h
   ·exact .inr (.inl h)
   ·exact .inr (.inr h)
 ·exact
  {live:=fun i blk hi=>by
    obtain ⟨hm,b1,e2,e3⟩:=hH i blk hi
    obtain ⟨b,k1,k2,k3⟩:=rel.live i b1 e2
    refine ⟨b,k1, ?_,DX rel e3 k3⟩
    rintro (hb|⟨id,h1,h2,h3⟩)
    ·exact k2 hb
    ·have:=rel.inj id i b h2 (by rw[e2];simp) h3 k1
     omega
   inj:=fun i i' b h1 h2 h3 h4=>rel.inj i i' b (hlive i h1).2 (hlive i' h2).2 h3 h4
   imm:=fun b hb=>by
    rcases hb with hb|⟨id,_,_,h3⟩
    ·exact rel.imm b hb
    ·exact rel.dom id b h3
   dom:=rel.dom
   glob:=fun g l hgl=>by
    obtain ⟨h1,h2⟩:=rel.glob g l hgl
    refine ⟨.inl h1,fun j x hx=> ?_⟩
    obtain ⟨y,e1,e2⟩:=h2 j x hx
    exact ⟨y,e1,e2.mono (fun _ h=> .inl h) (fun _ _ h=>h) (fun _ _ _=>rfl) (fun _ _ _=>rfl)⟩}
 ·intro k v hv
  obtain ⟨u,e1,d,e2⟩:=hS k v hv
  obtain ⟨y,e3,e4⟩:=hs k u e1
  exact ⟨y,e3,jr rel m d _ _ _ e2 e4⟩
 ·rw[hnx];exact hnew id hid
end
end Go.Proofs.Abs
/- Loops: states by number, seen anew behind each round. -/
namespace Go.Proofs.Abs
open Go
def r6 (lk:List (Nat × Nat)):AV→AV→Prop
 | .ptr i o,u=>match u with
  | .ptr j p=>aY lk i=some j∧o=p
  |_=>False
 | .rsl w i o l z,u=>match u with
  | .rsl w' j o' l' z'=>w=w'∧aY lk i=some j∧o=o'∧l=l'∧z=z'
  |_=>False
 | .map i,u=>match u with
  | .map j=>aY lk i=some j
  |_=>False
 |v,u=>u=v∧ac v=true
theorem uw {lk:List (Nat × Nat)} {v u:AV} (h:r6 lk v u):cw lk v u:=by
 unfold r6 at h
 split at h
 ·split at h
  ·obtain ⟨h1,rfl⟩:=h;exact .ptr _ _ _ h1
  ·exact h.elim
 ·split at h
  ·obtain ⟨rfl,h1,rfl,rfl,rfl⟩:=h;exact .rsl _ _ _ _ _ _ h1
  ·exact h.elim
 ·split at h
  ·exact .map _ _ h
  ·exact h.elim
 ·obtain ⟨rfl,hc⟩:=h;exact .same _ hc
def o5 (lk:List (Nat × Nat)):List AV→List AV→Prop
 |[],[]=>True
 |a::t,b::u=>r6 lk a b∧o5 lk t u
 |_,_=>False
theorem DY {lk:List (Nat × Nat)}:∀ {l l':List AV},o5 lk l l'→l.length=l'.length∧∀ (i:Nat) x y,l[i]? =some x→l'[i]? =some y→cw lk x y
 |[],[],_=>⟨rfl,fun i x y h=>by simp at h⟩
 |a::t,b::u,h=>by
  obtain ⟨h1,h2⟩:=DY h.2
  refine ⟨by simp[h1],fun i x y hx hy=> ?_⟩
  cases i with
  |zero=>simp only[List.getElem?_cons_zero,Option.some.injEq] at hx hy;subst hx;subst hy;exact uw h.1
  |succ i=>exact h2 i x y (by simpa using hx) (by simpa using hy)
 |[],_::_,h=>h.elim
 |_::_,[],h=>h.elim
def yV (lk:List (Nat × Nat)):AV→AV→Prop
 | .func fn f c,u=>match u with
  | .func fn' f' c'=>(fn=fn'∧f=f'∧ad f=true)∧o5 lk c c'
  |_=>False
 | .iface t v,u=>match u with
  | .iface t' v'=>t=t'∧r6 lk v v'
  |_=>False
 |v,u=>r6 lk v u
theorem MI {lk:List (Nat × Nat)} {v u:AV} (h:yV lk v u):cw lk v u:=by
 unfold yV at h
 split at h
 ·split at h
  ·obtain ⟨⟨rfl,rfl,hf⟩,hc⟩:=h
   obtain ⟨h1,h2⟩:=DY hc
   exact .func _ _ _ _ hf h1 h2
  ·exact h.elim
 ·split at h
  ·obtain ⟨rfl,h⟩:=h;exact .iface _ (uw h)
  ·exact h.elim
 ·exact uw h
inductive Mode where
 |whole
 |each
 |rel
 |split (pre suf old:List AV)
structure bt (lk:List (Nat × Nat)) (l l':List AV):Prop where
 out:RenL lk l l'
def ux:List (AV × AV)→Bool
 |[]=>true
 |(a,b)::t=>ac a&&(ac b&&ux t)
theorem RenP.same (lk:List (Nat × Nat)):∀ {l:List (AV × AV)},ux l=true→RenP lk l l
 |[],_=>trivial
 |(a,b)::t,h=>by
  simp only[ux,Bool.and_eq_true] at h
  exact ⟨.same a h.1,.same b h.2.1,RenP.same lk h.2.2⟩
def yW (lk:List (Nat × Nat)) (mode:Mode):Blk→Blk→Prop
 | .cells l,.cells l'=>match mode with
  | .whole=>l'=l∧ad l=true
  | .each=>o5 lk l l'
  | .rel=>bt lk l l'
  | .split pre suf old=>(l=pre++suf∧l'=pre++old)∧(ad pre=true∧o5 lk suf old)
 | .siter s p,.siter s' p'=>s=s'∧p=p'
 | .miter m a b c,.miter m' a' b' c'=>a=a'∧b=b'∧c=c'∧aY lk m=some m'
 | .mapb c s l,.mapb c' s' l'=>(c=c'∧s=s'∧l'=l)∧ux l=true
 |_,_=>False
theorem yX {lk:List (Nat × Nat)}:∀ {l l':List AV},o5 lk l l'→RenL lk l l'
 |[],[],_=>trivial
 |_a::_t,_b::_u,h=>⟨uw h.1,yX h.2⟩
 |[],_::_,h=>h.elim
 |_::_,[],h=>h.elim
theorem RenL.append' {lk:List (Nat × Nat)}:∀ {a b c d:List AV},RenL lk a b→RenL lk c d→RenL lk (a++c) (b++d)
 |[],[],_,_,_,h=>h
 |_::_,_::_,_,_,h1,h2=>⟨h1.1,RenL.append' h1.2 h2⟩
 |[],_::_,_,_,h,_=>h.elim
 |_::_,[],_,_,h,_=>h.elim
theorem MJ {lk:List (Nat × Nat)} {wh:Mode} {b b':Blk} (h:yW lk wh b b'):ju lk b b':=by
 cases b with
 | cells l=>cases b' with
  | cells l'=>
   simp only[yW] at h
   split at h
   ·obtain ⟨rfl,hc⟩:=h;exact RenL.same lk hc
   ·exact yX h
   ·exact h.out
   ·obtain ⟨⟨rfl,rfl⟩,hc,h⟩:=h
    exact RenL.append' (RenL.same lk hc) (yX h)
  |_=>exact h.elim
 |siter s p=>cases b' with
  |siter s' p'=>exact h
  |_=>exact h.elim
 |miter m a b c'=>cases b' with
  |miter m' a' b' c'=>exact h
  |_=>exact h.elim
 | mapb c s l=>cases b' with
  |mapb c' s' l'=>
   obtain ⟨⟨rfl,rfl,rfl⟩,hc⟩:=h
   exact ⟨rfl,rfl,RenP.same lk hc⟩
  |_=>exact h.elim
abbrev Heap2:=List (Nat × Blk × Mode)
def Heap2.heap:Heap2→ae
 |[]=>[]
 |(i,b,_)::t=>(i,some b)::Heap2.heap t
def yY (lk:List (Nat × Nat)) (g:Nat→Option AV):List (Nat × AV)→Prop
 |[]=>True
 |(k,v)::t=>(match g k with
  |some u=>yV lk v u
  |none=>False)∧yY lk g t
def yZ (g:Nat→Option AV):List (Nat × AV)→Prop
 |[]=>True
 |(k,v)::t=>(match g k with
  |some u=>u=v∧ac v=true
  |none=>False)∧yZ g t
def y5 (lk:List (Nat × Nat)) (g:Nat→Option Blk):Heap2→Prop
 |[]=>True
 | (i,b,wh)::t=>(match aY lk i with
  |some j=>match g j with
   |some c=>yW lk wh b c
   |none=>False
  |none=>False)∧y5 lk g t
structure View where
 slots:List (Nat × AV)
 refs:List (Nat × AV)
 heap:Heap2
 nx:Nat
 n:Nat
noncomputable def View.st (V:View):St:=⟨sl (V.slots++V.refs),V.heap.heap,V.nx,V.n⟩
def uy:List Nat→Bool
 |[]=>true
 |a::t=> !fa t a&&uy t
def y6 (nx0 nx:Nat) (lk:List (Nat × Nat)):Bool:=uy (lk.map (·.2))&&(mv (lk.map (·.1)) nx&&Nat.ble nx0 nx)
def uz (lk:List (Nat × Nat)):Nat→Bool
 |0=>true
 |n+1=>(match aY lk n with
  |some j=>Nat.beq j n
  |none=>false)&&uz lk n
def bR (nx0:Nat) (lk:List (Nat × Nat)) (V:View) (s:St):Prop:=
 aC (y6 nx0 V.nx lk&&(uz lk nx0&&Nat.beq V.n s.n)) (yZ s.slots.get V.slots∧(yY lk s.slots.get V.refs∧y5 lk (hget s.heap) V.heap))
def Says2 (G:aQ) (nx0:Nat) (s s2:St):Prop:=
 ∀w0 I0 α0 H0 D a w,(∀id,nx0≤id→α0 id=none)→CR G w0 I0 α0 H0 nx0 D s a w→CR G w0 I0 α0 H0 nx0 D s2 a w
theorem y7:∀ {l:List Nat},uy l=true→l.Nodup
 |[],_=> .nil
 |a::t,h=>by
  simp only[uy,Bool.and_eq_true,Bool.not_eq_true'] at h
  refine List.nodup_cons.2 ⟨fun hm=> ?_,y7 h.2⟩
  rw[memN_iff.2 hm] at h;exact Bool.noConfusion h.1
theorem y8 {lk:List (Nat × Nat)}:∀ {n:Nat},uz lk n=true→∀i,i<n→aY lk i=some i
 |0,_=>by simp
 | n+1,h=>fun i hi=>by
  simp only[uz,Bool.and_eq_true] at h
  rcases Nat.lt_or_ge i n with h'|h'
  ·exact y8 h.2 i h'
  ·have:i=n:=by omega
   subst this
   have h1:=h.1
   split at h1
   ·rename_i j hj;rw[hj,beq_iff.1 h1]
   ·cases h1
theorem y9 {H2:Heap2} {i:Nat} {b:Blk} (h:hget H2.heap i=some b):∃wh,(i,b,wh)∈H2:=by
 induction H2 with
 |nil=>simp[Heap2.heap,hget] at h
 | cons p t ih=>
  obtain ⟨j,c,wh⟩:=p
  simp only[Heap2.heap,hget] at h
  split at h
  ·rename_i he
   have he:=beq_iff.1 he
   simp only[Option.some.injEq] at h
   subst he;subst h
   exact ⟨wh,by simp⟩
  ·obtain ⟨wh,hm⟩:=ih h
   exact ⟨wh,by simp[hm]⟩
theorem za {lk:List (Nat × Nat)} {g:Nat→Option AV}:∀ {L:List (Nat × AV)},yY lk g L→∀k v,(k,v)∈L→∃u,g k=some u∧cw lk v u
 |[],_,_,_,h=>by cases h
 | (k',v')::t,h,k,v,hm=>by
  rcases List.mem_cons.1 hm with e|hm
  ·cases e
   have h1:=h.1
   split at h1
   ·rename_i u hu;exact ⟨u,hu,MI h1⟩
   ·exact h1.elim
  ·exact za h.2 k v hm
theorem zb {lk:List (Nat × Nat)} {g:Nat→Option AV}:∀ {L:List (Nat × AV)},yZ g L→∀k v,(k,v)∈L→∃u,g k=some u∧cw lk v u
 |[],_,_,_,h=>by cases h
 | (k',v')::t,h,k,v,hm=>by
  rcases List.mem_cons.1 hm with e|hm
  ·cases e
   have h1:=h.1
   split at h1
   ·rename_i u hu
    obtain ⟨rfl,hc⟩:=h1
    exact ⟨u,hu,.same _ hc⟩
   ·exact h1.elim
  ·exact zb h.2 k v hm
theorem zc {lk:List (Nat × Nat)} {g:Nat→Option Blk}:∀ {H2:Heap2},y5 lk g H2→∀i b wh,(i,b,wh)∈H2→∃j b1,aY lk i=some j∧g j=some b1∧ju lk b b1
 |[],_,_,_,_,h=>by cases h
 | (i',b',wh')::t,h,i,b,wh,hm=>by
  rcases List.mem_cons.1 hm with e|hm
  ·cases e
   have h1:=h.1
   split at h1
   ·rename_i j hj
    split at h1
    ·rename_i c hc;exact ⟨j,c,hj,hc,MJ h1⟩
    ·exact h1.elim
   ·exact h1.elim
  ·exact zc h.2 i b wh hm
theorem o6 {G:aQ} {nx0:Nat} {lk:List (Nat × Nat)} {V:View} {s:St} (hg:∀g l,G g=some l→ad l=true) (h:bR nx0 lk V s):Says2 G nx0 s V.st:=by
 obtain ⟨hb,h0,h1,h2⟩:=oblB_iff.1 h
 simp only[y6,Bool.and_eq_true] at hb
 obtain ⟨⟨b1,b2,b3⟩,b4,b5⟩:=hb
 intro w0 I0 α0 H0 D a w hα hr
 refine hr.turnIn lk hg hα (beq_iff.1 b5) (fun k v hv=>by
   rcases List.mem_append.1 (rI hv) with hm|hm
   ·exact zb h0 k v hm
   ·exact za h1 k v hm) (fun i b hi=> ?_) (y7 b1) (fun i hi=> ?_) (y8 b4) (Nat.le_of_ble_eq_true b3)
 ·obtain ⟨wh,hm⟩:=y9 hi
  exact zc h2 i b wh hm
 ·cases hl:aY lk i with
  |none=>rfl
  |some j=>
   have:=jp b2 i (List.mem_map.2 ⟨_,iO hl,rfl⟩)
   have hi:V.nx≤i:=hi
   omega
def zd (m:Nat) (h:ae) (g:Nat→Option AV):List (Nat × AV)→Prop
 |[]=>True
 |(k,v)::t=>(match g k with
  |some u=>Frz m h u v
  |none=>False)∧zd m h g t
def ze (m:Nat) (h:ae):Heap2→Prop
 |[]=>True
 |(i,b,_)::t=>(aC (Nat.blt i m) (match hget h i with
  |some c=>o4 m h c b
  |none=>False))∧ze m h t
theorem DZ {m:Nat} {h:ae} {g:Nat→Option AV}:∀ {L:List (Nat × AV)},zd m h g L→∀k v,(k,v)∈L→∃u,g k=some u∧Frz m h u v
 |[],_,_,_,h=>by cases h
 | (k',v')::t,h,k,v,hm=>by
  rcases List.mem_cons.1 hm with e|hm
  ·cases e
   have h1:=h.1
   split at h1
   ·rename_i u hu;exact ⟨u,hu,h1⟩
   ·exact h1.elim
  ·exact DZ h.2 k v hm
theorem D0 {m:Nat} {h:ae}:∀ {H2:Heap2},ze m h H2→∀i b wh,(i,b,wh)∈H2→i<m∧∃b1,hget h i=some b1∧o4 m h b1 b
 |[],_,_,_,_,h=>by cases h
 | (i',b',wh')::t,h,i,b,wh,hm=>by
  rcases List.mem_cons.1 hm with e|hm
  ·cases e
   obtain ⟨hb,h1⟩:=oblB_iff.1 h.1
   refine ⟨blt_iff.1 hb, ?_⟩
   split at h1
   ·rename_i c hc;exact ⟨c,hc,h1⟩
   ·exact h1.elim
  ·exact D0 h.2 i b wh hm
theorem Says2.trans {G:aQ} {nx0:Nat} {s s1 s2:St} (h1:Says2 G nx0 s s1) (h2:Says2 G nx0 s1 s2):Says2 G nx0 s s2:=fun w0 I0 α0 H0 D a w hα hr=>h2 w0 I0 α0 H0 D a w hα (h1 w0 I0 α0 H0 D a w hα hr)
theorem Says2.refl {G:aQ} {nx0:Nat} {s:St}:Says2 G nx0 s s:=fun _ _ _ _ _ _ _ _ h=>h
section
variable {P:Program} {G:aQ} {nx0:Nat} {s s2:St} {Q Q':AExit→St→Prop}
theorem AWp.says {c:Code} (hs:Says2 G nx0 s s2) (h:AWp P G nx0 c s2 Q):AWp P G nx0 c s Q:=
 ⟨fun w0 I0 α0 H0 D a w hα hr=>h.out w0 I0 α0 H0 D a w hα (hs w0 I0 α0 H0 D a w hα hr)⟩
theorem AWp.saysEnd {c:Code} (h:AWp P G nx0 c s Q) (hq:∀e s',Q e s'→∃s2,Says2 G nx0 s' s2∧Q' e s2):AWp P G nx0 c s Q':=
 ⟨fun w0 I0 α0 H0 D a w hα hr=>wp_mono (h.out w0 I0 α0 H0 D a w hα hr) fun _ _ _ ⟨x,s',h1,h2,h3⟩=>by
  obtain ⟨s2,k1,k2⟩:=hq x s' h3
  exact ⟨x,s2,h1,k1 w0 I0 α0 H0 D _ _ hα h2,k2⟩⟩
end
def cR (r0:Nat) (L:bg):Nat→Option bg:=fun r=>match Nat.beq r r0 with
 |true=>some L
 |false=>none
def o7:bd:=fun _ _ _ _ _=>none
noncomputable def r7 (hint:Nat→Nat→Option ez) (ls:Nat→Option bg):be:=⟨hint,ls,o7,aA,yF,iP⟩
theorem MK {P:Program} {O:bi} {hint:Nat→Nat→Option ez} {ls:Nat→Option bg} (h:∀f args v,O.summ f args=some v→SemCall P O.glob f args v):dq P O (r7 hint ls):=⟨ur,h,fun _ _ h=>(by cases h),fun _ _ h=>(by cases h)⟩
noncomputable def zf (hint:Nat→Nat→Option ez) (ls:Nat→Option bg) (sem:dj):be:=⟨hint,ls,o7,sem,yF,iP⟩
theorem zg {P:Program} {O:bi} {hint:Nat→Nat→Option ez} {ls:Nat→Option bg} {sem:dj} (h:∀f args v,O.summ f args=some v→SemCall P O.glob f args v):dq P O (zf hint ls sem):=⟨ur,h,fun _ _ h=>(by cases h),fun _ _ h=>(by cases h)⟩
theorem LsOk.none {P:Program} {G:aQ} {nx0:Nat} {c:Code} {hint:Nat→Nat→Option ez}:LsOk P G nx0 (r7 hint (fun _=>Option.none)) c:=fun r L hL=>by cases hL
theorem LsOk.one {P:Program} {G:aQ} {nx0 r0:Nat} {L0:bg} {c b:Code} {hint:Nat→Nat→Option ez} (hat:br c r0=[b]) (h:∀s Q,L0 s Q→AWp P G nx0 (.loop b) s Q):LsOk P G nx0 (r7 hint (cR r0 L0)) c:=by
 intro r L hL x hx s Q hs
 simp only[r7,cR] at hL
 split at hL
 ·rename_i hr
  have hr:=beq_iff.1 hr
  simp only[Option.some.injEq] at hL
  rw[hr,hat,List.mem_singleton] at hx
  rw[hx]
  rw[←hL] at hs
  exact h s Q hs
 ·cases hL
def ko:List (Nat × bg)→Nat→Option bg
 |[],_=>none
 |(r,L)::t,k=>match Nat.beq k r with
  |true=>some L
  |false=>ko t k
def uA:List (Nat × Nat × ez)→Nat→Nat→Option ez
 |[],_,_=>none
 |(r,i,h)::t,k,j=>match Nat.beq k r&&Nat.beq j i with
  |true=>some h
  |false=>uA t k j
theorem LsOk.no {P:Program} {G:aQ} {nx0:Nat} {c:Code} {A:be} (h:A.ls=fun _=>Option.none):LsOk P G nx0 A c:=fun r L hL=>by rw[h] at hL;cases hL
theorem D2:∀ {l:List (Nat × bg)} {r:Nat} {L:bg},ko l r=some L→(r,L)∈l
 |[],_,_,h=>by cases h
 | (r0,L0)::t,r,L,h=>by
  simp only[ko] at h
  split at h
  ·rename_i hr
   have hr:=beq_iff.1 hr
   simp only[Option.some.injEq] at h
   subst hr;subst h;exact List.mem_cons_self ..
  ·exact List.mem_cons_of_mem _ (D2 h)
theorem LsOk.many {P:Program} {G:aQ} {nx0:Nat} {l:List (Nat × bg)} {c:Code} {A:be} (hA:A.ls=ko l) (h:∀p∈l,∀b∈br c p.1,∀s Q,p.2 s Q→AWp P G nx0 (.loop b) s Q):LsOk P G nx0 A c:=by
 intro r L hL x hx s Q hs
 rw[hA] at hL
 exact h (r,L) (D2 hL) x hx s Q hs
def cy (P:Program) (f:FuncId):Code:=match P.funcs[f]? with
 |some fn=>match fn.body with
  |some c=>c
  |none=> .skip
 |none=> .skip
def ah (P:Program) (f r:Nat):Code:=match br (cy P f) r with
 |b::_=>b
 |[]=> .skip
theorem ML {P:Program} {f:FuncId} {fn:Func} {c:Code} (h1:P.funcs[f]? =some fn) (h2:fn.body=some c):c=cy P f:=by
 unfold cy;rw[h1];simp only;rw[h2]
theorem aN {P:Program} {G:aQ} {nx0:Nat} {A:be} {f:FuncId} (h:LsOk P G nx0 A (cy P f)):jv P G nx0 A f:=fun fn c h1 h2=>by rw[ML h1 h2];exact h
end Go.Proofs.Abs
/- Calls that make blocks, known from a heap of their own. -/
namespace Go.Proofs.Abs
open Go
def shl (nx m:Nat):List (Nat × Nat):=(List.range m).map fun k=>(nx+k,k)
section
variable {P:Program} {G:aQ} {f:FuncId} {args:List AV} {v v2:AV} {H' H2:ae} {m nx:Nat}
end
end Go.Proofs.Abs
/- Calls that look at rows and answer plainly, known for closed arguments. -/
namespace Go.Proofs.Abs
open Go
section
variable {P:Program} {G:aQ}
end
end Go.Proofs.Abs
/- The abstract machine, written so that the kernel runs it with less ado; it is the same machine. -/
namespace Go.Proofs.Abs
open Go
noncomputable section
def asInt (x:AV):Option (IntKind × Int):=AV.rec (motive_1:=fun _=>Option (IntKind × Int)) (motive_2:=fun _=>Unit) (fun _=>none) (fun k n=>some (k,n)) (fun _=>none) (fun _ _=>none) (none) (fun _ _ _=>none) (fun _ _=>none) (fun _ _ _=>none) (fun _ _ _ _ _=>none) (none) (none) (fun _=>none) (none) (fun _ _ _ _ _=>none) (none) (fun _ _ _=>none) (none) (fun _ _=>none) (fun _ _=>none) () (fun _ _ _ _=>()) x
def asBool (x:AV):Option Bool:=AV.rec (motive_1:=fun _=>Option Bool) (motive_2:=fun _=>Unit) (fun b=>some b) (fun _ _=>none) (fun _=>none) (fun _ _=>none) (none) (fun _ _ _=>none) (fun _ _=>none) (fun _ _ _=>none) (fun _ _ _ _ _=>none) (none) (none) (fun _=>none) (none) (fun _ _ _ _ _=>none) (none) (fun _ _ _=>none) (none) (fun _ _=>none) (fun _ _=>none) () (fun _ _ _ _=>()) x
inductive VP where
 |ptr (i o:Nat)
 |fptr (cs:List AV) (o:Nat)
 |gptr (g o:Nat)
 |oth
def uB (x:AV):VP:=AV.rec (motive_1:=fun _=>VP) (motive_2:=fun _=>Unit) (fun _=>VP.oth) (fun _ _=>VP.oth) (fun _=>VP.oth) (fun i o=>VP.ptr i o) (VP.oth) (fun cs o _=>VP.fptr cs o) (fun g o=>VP.gptr g o) (fun _ _ _=>VP.oth) (fun _ _ _ _ _=>VP.oth) (VP.oth) (VP.oth) (fun _=>VP.oth) (VP.oth) (fun _ _ _ _ _=>VP.oth) (VP.oth) (fun _ _ _=>VP.oth) (VP.oth) (fun _ _=>VP.oth) (fun _ _=>VP.oth) () (fun _ _ _ _=>()) x
def MM (x:AV):Option (List AV):=AV.rec (motive_1:=fun _=>Option (List AV)) (motive_2:=fun _=>Unit) (fun _=>none) (fun _ _=>none) (fun _=>none) (fun _ _=>none) (none) (fun _ _ _=>none) (fun _ _=>none) (fun _ _ _=>none) (fun _ _ _ _ _=>none) (none) (none) (fun _=>none) (none) (fun _ _ _ _ _=>none) (none) (fun _ _ _=>none) (none) (fun _ _=>none) (fun cs _=>some cs) () (fun _ _ _ _=>()) x
inductive VS where
 |fsl (f:Bool) (es:List AV)
 |rsl (w:Bool) (i o l z:Nat)
 |oth
def r8 (x:AV):VS:=AV.rec (motive_1:=fun _=>VS) (motive_2:=fun _=>Unit) (fun _=>VS.oth) (fun _ _=>VS.oth) (fun _=>VS.oth) (fun _ _=>VS.oth) (VS.oth) (fun _ _ _=>VS.oth) (fun _ _=>VS.oth) (fun f es _=>VS.fsl f es) (fun w i o l z=>VS.rsl w i o l z) (VS.oth) (VS.oth) (fun _=>VS.oth) (VS.oth) (fun _ _ _ _ _=>VS.oth) (VS.oth) (fun _ _ _=>VS.oth) (VS.oth) (fun _ _=>VS.oth) (fun _ _=>VS.oth) () (fun _ _ _ _=>()) x
def uC (x:AV):List AV:=AV.rec (motive_1:=fun _=>List AV) (motive_2:=fun _=>Unit) (fun b=>[.bool b]) (fun k n=>[.int k n]) (fun s=>[.str s]) (fun i o=>[.ptr i o]) ([.nilp]) (fun cs o _=>[.fptr cs o]) (fun g o=>[.gptr g o]) (fun f es _=>[.fsl f es]) (fun w i o l z=>[.rsl w i o l z]) ([.nilsl]) ([.nesl]) (fun i=>[.map i]) ([.nilmap]) (fun fn a c _ _=>[.func fn a c]) ([.nilFunc]) (fun t v _=>[.iface t v]) ([.nilIface]) (fun cs _=>cs) (fun cs _=>[.tuple cs]) () (fun _ _ _ _=>()) x
def zh (x:AV):Bool:=AV.rec (motive_1:=fun _=>Bool) (motive_2:=fun _=>Unit) (fun _=>true) (fun _ _=>true) (fun _=>true) (fun _ _=>true) (true) (fun _ _ _=>true) (fun _ _=>true) (fun _ _ _=>true) (fun _ _ _ _ _=>true) (true) (true) (fun _=>true) (true) (fun _ _ _ _ _=>true) (true) (fun _ _ _=>true) (true) (fun _ _=>false) (fun _ _=>false) () (fun _ _ _ _=>()) x
def zi (l:List AV):Bool:=List.rec true (fun a _ ih=>zh a&&ih) l
theorem zj {x:AV} {p:IntKind × Int} (h:asInt x=some p):x= .int p.1 p.2:=by cases x<;>simp[asInt] at h<;>(subst h;rfl)
theorem MN:uC=AV.cells:=by funext x;cases x<;>rfl
theorem MO:zh=AV.one:=by funext x;cases x<;>rfl
theorem MP:zi=aS:=by
 funext l
 induction l with
 |nil=>rfl
 |cons a t ih=>show (zh a&&zi t)=_;rw[ih,MO];rfl
def D3:BinOp→IntKind→Int→Int→Option (Option AV)
 | .add=>fun k a b=>some (some (.int k (af k (a+b))))
 | .sub=>fun k a b=>some (some (.int k (af k (a-b))))
 | .mul=>fun k a b=>some (some (.int k (af k (a*b))))
 | .eql=>fun _ a b=>some (some (.bool (aF a b)))
 | .neq=>fun _ a b=>some (some (.bool (!aF a b)))
 | .lss=>fun _ a b=>some (some (.bool (ar a b)))
 | .leq=>fun _ a b=>some (some (.bool (!ar b a)))
 | .gtr=>fun _ a b=>some (some (.bool (ar b a)))
 | .geq=>fun _ a b=>some (some (.bool (!ar a b)))
 |_=>fun _ _ _=>none
def MQ (k k':IntKind):Bool:=decide (k=k')
section
variable (P:Program)
def zk (op:BinOp) (t:TypeId) (xo yo:Operand) (x y:AV):Option AV:=
 match asInt x with
 | some p=>match asInt y with
  | some q=>match MQ p.1 q.1 with
   |true=>match D3 op p.1 p.2 q.2 with
    |some r=>r
    |none=>aG P op t xo yo x y
   |false=>aG P op t xo yo x y
  |none=>aG P op t xo yo x y
 |none=>aG P op t xo yo x y
theorem MR:zk P=aG P:=by
 funext op t xo yo x y
 unfold zk
 split
 ·rename_i p hx
  split
  ·rename_i q hy
   split
   ·rename_i hk
    have hk:p.1=q.1:=of_decide_eq_true hk
    split
    ·rename_i r hr
     rw[zj hx,zj hy]
     rw[←hk]
     unfold D3 at hr
     split at hr<;>simp only[Option.some.injEq] at hr<;>first|(subst hr;simp[aG];done)|(cases hr;done)
    ·rfl
   ·rfl
  ·rfl
 ·rfl
def D4 (t:TypeId) (glob:Nat→Option (List AV)) (a:AV):Option Eff:=
 match uB a with
 | .ptr id off=>some<| .read id fun
  | .cells l=>(bh P t l off).map .val
  |_=>none
 | .fptr cs off=>(bh P t cs off).map .val
 | .gptr g off=>match glob g with
  |some l=>(bh P t l off).map .val
  |none=>none
 | .oth=>none
theorem MS (t:TypeId) (glob:Nat→Option (List AV)) (a:AV):D4 P t glob a=eZ P t a glob:=by cases a<;>rfl
def zl (t:TypeId) (a v:AV):Option Eff:=
 match uB a with
 | .ptr id off=>match bJ P t with
  |some n=>match Nat.beq (ab (uC v)) n&&zi (uC v) with
   | true=>some<| .upd id fun
     | .cells l=>(splice l off (uC v)).map fun l'=>(.cells l',gh)
     |_=>none
   |false=>none
  |none=>none
 |_=>none
theorem MT (t:TypeId) (a v:AV):zl P t a v=mj P t a v:=by
 unfold zl
 rw[MN,MP]
 cases a<;>first|rfl|skip
 rename_i id off
 show (match bJ P t with
  |some n=>(match Nat.beq (ab v.cells) n&&aS v.cells with
   | true=>some<|Eff.upd id fun
     | .cells l=>(splice l off v.cells).map fun l'=>(Blk.cells l',gh)
     |_=>none
   |false=>none)
  |none=>none)=_
 unfold mj
 simp only
 cases bJ P t with
 |none=>rfl
 |some n=>
  simp only
  cases Nat.beq (ab v.cells) n&&aS v.cells<;>rfl
def D5 (a:AV):Option AV:=match uB a with
 | .ptr i o=>some (.ptr i o)
 | .fptr c o=>some (.fptr c o)
 | .gptr g o=>some (.gptr g o)
 | .oth=>qH a
theorem MU (a:AV):D5 a=qH a:=by cases a<;>rfl
def zm (t:TypeId) (x:AV) (f:Nat):Option AV:=
 match mo P t f with
 | some fd=>match bJ P fd.type with
  |some (_+1)=>match uB x with
   | .ptr id off=>some (.ptr id (off+fd.offset))
   | .fptr cs off=>some (.fptr cs (off+fd.offset))
   | .gptr g off=>some (.gptr g (off+fd.offset))
   | .oth=>none
  |_=>none
 |none=>none
theorem MV (t:TypeId) (x:AV) (f:Nat):zm P t x f=qL P t x f:=by
 unfold zm qL
 cases mo P t f with
 |none=>rfl
 | some fd=>
  simp only
  cases bJ P fd.type with
  |none=>rfl
  |some n=>
   cases n with
   |zero=>rfl
   |succ n=>cases x<;>rfl
def D6 (a:AV):Option Nat:=match asInt a with
 |some p=>Int.rec (fun n=>some n) (fun _=>none) p.2
 |none=>none
theorem MW (a:AV):D6 a=gm a:=by
 cases a<;>try rfl
 rename_i k n
 cases n<;>rfl
def zn (t:TypeId) (x i:AV):Option AV:=
 match dB P t,r8 x,D6 i with
 | some e,.rsl _ id off len sz',some i=>match bJ P e with
  |some sz=>match Nat.blt i len&&Nat.beq sz sz' with
   |true=>some (.ptr id (off+i*sz))
   |false=>none
  |none=>none
 |_,_,_=>ax P t x i
theorem MX (t:TypeId) (x i:AV):zn P t x i=ax P t x i:=by
 unfold zn
 split
 ·rename_i e w id off len sz' k he hx hi
  rw[MW] at hi
  have hu:P.underlying t=some (.slice e):=by
   unfold dB at he
   split at he
   ·simp only[Option.some.injEq] at he;subst he;assumption
   ·cases he
  have hx:x= .rsl w id off len sz':=by cases x<;>simp[r8] at hx<;>simp[hx]
  subst hx
  simp only[ax,hi,hu,Option.bind_eq_bind,Option.bind_some]
  split
  ·rename_i sz hs
   simp only[hs,Option.bind_some]
   split
   ·rename_i h;simp only[h,if_true]
   ·rename_i h;simp only[h,Bool.false_eq_true,if_false]
  ·rename_i hs
   simp only[hs,Option.bind_none]
 ·rfl
def D7 (v:Option AV) (i:Nat):Option Eff:=
 match v with
 |some a=>match MM a with
  |some vs=>bW (c7 vs i)
  |none=>none
 |none=>none
def zo (s d:TypeId) (x:AV):Option Eff:=
 match asInt x with
 |some p=>match P.underlying s,P.underlying d with
  |some _,some (.int k)=>some (.val (.int k (af k p.2)))
  |_,_=>gH P s d x
 |none=>gH P s d x
theorem MY (s d:TypeId) (x:AV):zo P s d x=gH P s d x:=by
 unfold zo
 split
 ·rename_i p hx
  split
  ·rename_i k h1 h2
   rw[zj hx]
   unfold gH
   simp only[h1,h2]
  ·rfl
 ·rfl
def zp (argTypes:Array TypeId) (x:AV):Option Eff:=
 match argTypes[0]?,r8 x with
 |some t,.rsl _ _ _ n _=>match dB P t with
  |some _=>some (.val (.int .i64 (.ofNat n)))
  |none=>j9 P argTypes x
 |some t,.fsl _ es=>match dB P t with
  |some _=>some (.val (.int .i64 (.ofNat (ab es))))
  |none=>j9 P argTypes x
 |_,_=>j9 P argTypes x
theorem MZ (argTypes:Array TypeId) (x:AV):zp P argTypes x=j9 P argTypes x:=by
 have he:∀ {t e},dB P t=some e→P.underlying t=some (.slice e):=fun {t e} he=>by
  unfold dB at he
  split at he
  ·simp only[Option.some.injEq] at he;subst he;assumption
  ·cases he
 unfold zp
 split
 ·rename_i t w i o n z ht hx
  split
  ·rename_i e h
   have hx:x= .rsl w i o n z:=by cases x<;>simp[r8] at hx<;>simp[hx]
   subst hx
   simp only[j9,ht,he h]
  ·rfl
 ·rename_i t f es ht hx
  split
  ·rename_i e h
   have hx:x= .fsl f es:=by cases x<;>simp[r8] at hx<;>simp[hx]
   subst hx
   simp only[j9,ht,he h]
  ·rfl
 ·rfl
def zq (glob:Nat→Option (List AV)) (ev:Operand→Option AV) (c:Call):Option Eff:=
 match c.callee with
 | .builtin .len=>match gK ev c.args.toList with
  |some [x]=>zp P c.argTypes x
  |_=>jj P glob ev c
 |_=>jj P glob ev c
theorem M0 (glob:Nat→Option (List AV)) (ev:Operand→Option AV) (c:Call):zq P glob ev c=jj P glob ev c:=by
 unfold zq
 split
 ·rename_i hc
  split
  ·rename_i x hx
   simp only[jj,hx,hc,my,MZ]
  ·rfl
 ·rfl
end
def D8 (o:Op):Program→(Nat→Option (List AV))→(Operand→Option AV)→Option (Option Eff):=
 Op.rec (motive:=fun _=>Program→(Nat→Option (List AV))→(Operand→Option AV)→Option (Option Eff))
  (fun x _ _ ev=>some (bW (ev x))) (fun x _ _ ev=>some (bW (ev x))) (fun _ _ _ _ _ _=>none) (fun _ _ _ _=>none) (fun _ _ _ _ _=>none) (fun _ _ _ _ _=>none) (fun _ _ _ _ _ _=>none) (fun _ _ _ _ _ _ _=>none) (fun t a P glob ev=>some (e1 ev a fun a=>D4 P t glob a)) (fun t a x P _ ev=>some (e2 ev a x (zl P t))) (fun _ _ _ _=>none) (fun _ _ _ _=>none) (fun x _ _ ev=>some (e1 ev x fun v=>bW (D5 v))) (fun op t x y _ P _ ev=>some (e2 ev x y fun v w=>bW (zk P op t x y v w))) (fun _ _ _ _ _ _=>none) (fun s d x P _ ev=>some (e1 ev x (zo P s d))) (fun _ _ _ _ _=>none) (fun _ _ _ _ _=>none) (fun _ _ _ _ _ _=>none) (fun _ _ _ _ _=>none) (fun _ _ _ _ _=>none) (fun _ _ _ _ _ _=>none) (fun _ _ _ _ _ _ _ _=>none) (fun t x f P _ ev=>some (e1 ev x fun v=>bW (zm P t v f))) (fun _ _ _ _ _ _=>none) (fun t x i P _ ev=>some (e2 ev x i fun v w=>bW (zn P t v w))) (fun _ _ _ _ _ _=>none) (fun _ _ _ _ _ _ _=>none) (fun _ _ _ _ _ _ _=>none) (fun _ _ _ _ _ _=>none) (fun _ _ _ _ _ _ _=>none) (fun _ _ _ _ _=>none) (fun _ _ _ _ _=>none) (fun _ _ _ _=>none) (fun _ _ _ _ _ _ _=>none) (fun t i _ _ ev=>some (D7 (ev t) i)) (fun c P glob ev=>some (zq P glob ev c)) (fun _ _ _ _=>none) (fun _ _ _ _=>none) (fun _ _ _ _=>none) (fun _ _ _ _ _=>none) (fun _ _ _ _ _ _=>none) (fun _ _ _ _ _=>none) o
def zr (P:Program) (glob:Nat→Option (List AV)) (ev:Operand→Option AV) (o:Oper):Option Eff:=match D8 o.op P glob ev with
 |some r=>r
 |none=>bD P glob ev o
theorem M1 (P:Program) (glob:Nat→Option (List AV)) (ev:Operand→Option AV) (o:Oper):zr P glob ev o=bD P glob ev o:=by
  unfold zr
  split
  · rename_i r hr
    cases ho:o.op<;>rw[ho] at hr<;>simp only[D8,Option.some.injEq,reduceCtorEq] at hr<;>(subst hr;simp only[bD,ho,MR,MS,MU,MV,MX,M0])<;>first
      |rfl
      | (unfold D7 tD;rename_i t i;cases ev t with
         |none=>rfl
         |some a=>cases a<;>rfl)
      |(congr 1;funext a b;exact MT P _ a b)
      |(congr 1;funext a;exact MY P _ _ a)
  · rfl
def M2 (o:Op):Bool:=Op.rec (motive:=fun _=>Bool) (fun _=>false) (fun _=>false) (fun _ _ _=>false) (fun _=>false) (fun _ _=>false) (fun _ _=>false) (fun _ _ _=>true) (fun _ _ _ _=>false) (fun _ _=>false) (fun _ _ _=>false) (fun _=>false) (fun _=>false) (fun _=>false) (fun _ _ _ _ _=>false) (fun _ _ _=>false) (fun _ _ _=>false) (fun _ _=>false) (fun _ _=>false) (fun _ _ _=>false) (fun _ _=>false) (fun _ _=>false) (fun _ _ _=>false) (fun _ _ _ _ _=>false) (fun _ _ _=>false) (fun _ _ _=>false) (fun _ _ _=>false) (fun _ _ _=>false) (fun _ _ _ _=>false) (fun _ _ _ _=>false) (fun _ _ _=>false) (fun _ _ _ _=>false) (fun _ _=>false) (fun _ _=>false) (fun _=>false) (fun _ _ _ _=>false) (fun _ _=>false) (fun _=>false) (fun _=>false) (fun _=>false) (fun _=>false) (fun _ _=>false) (fun _ _ _=>false) (fun _ _=>false) o
def zs (P:Program) (glob:Nat→Option (List AV)) (ops:List Oper) (ev:Operand→Option AV) (o:Oper):Option Eff:=match M2 o.op with
 |true=>ca P glob ops ev o
 |false=>zr P glob ev o
theorem M3 (P:Program) (glob:Nat→Option (List AV)) (ops:List Oper) (ev:Operand→Option AV) (o:Oper):zs P glob ops ev o=ca P glob ops ev o:=by
 unfold zs
 split
 ·rfl
 ·rename_i h
  rw[M1,dg]
  cases ho:o.op<;>first|rfl|(rw[ho] at h;cases h)
def zt (e:Eff):Option AV:=match e with
 | .val v=>some v
 |_=>none
theorem M4 {e:Eff} {v:AV} (h:zt e=some v):e= .val v:=by cases e<;>simp[zt] at h<;>(subst h;rfl)
def zu (call:bd) (id:Nat) (e:Eff) (h:ae) (nx:Nat):Option (AV × ae × Nat × Foot):=match zt e with
 |some v=>some (v,h,nx,⟨false,[],[]⟩)
 |none=>a7 call id 2 e h nx
theorem M5 (call:bd) (id:Nat) (e:Eff) (h:ae) (nx:Nat):zu call id e h nx=a7 call id 2 e h nx:=by
 unfold zu
 split
 ·rename_i v hv;rw[M4 hv];rfl
 ·rfl
section
variable (P:Program) (glob:Nat→Option (List AV)) (call:bd)
def zw (ops:List Oper) (id:Nat) (o:Oper) (s:St):Option (St × Foot):=
 match c8 ops o s.slots with
 | some true=>match zs P glob ops (bq s.slots) o with
  |some e=>match zu call id e s.heap s.nx with
   |some (v,h,nx,ft)=>some (⟨ce s.n s.slots o.dst v,h,nx,s.n⟩,ft)
   |none=>none
  |none=>none
 |some false=>some (⟨ce s.n s.slots o.dst gh,s.heap,s.nx,s.n⟩,⟨false,[],[]⟩)
 |none=>none
theorem M6 (ops:List Oper) (id:Nat) (o:Oper) (s:St):zw P glob call ops id o s=de P glob call ops id o s:=by
 unfold zw de
 simp only[M3,M5]
 rfl
def uD (all:List Oper) (base:Nat):List Oper→Nat→St→List (Nat × Foot)→Option (St × List (Nat × Foot))
 |[],_,s,acc=>some (s,acc)
 |o::rest,i,s,acc=>match zw P glob call all (base+i) o s with
  |some (s',ft)=>uD all base rest (i+1) s' (match ft.none with|true=>acc|false=>(i,ft)::acc)
  |none=>none
theorem D9 (all:List Oper) (base:Nat):∀ (l:List Oper) (i:Nat) (s:St) (acc:List (Nat × Foot)),uD P glob call all base l i s acc=cX P glob call all base l i s acc
 |[],_,_,_=>rfl
 |o::rest,i,s,acc=>by
  simp only[uD,cX,M6]
  split
  ·rename_i s' ft h;simp only[h];exact D9 all base rest (i+1) s' _
  ·rename_i h;simp only[h]
def M7 (v:Option AV):Option Bool:=match v with
 |some a=>asBool a
 |none=>none
def gS (lf:Nat):Code→St→Option (AExit × St)
 | .skip,s| .label _,s=>some (.normal,s)
 | .region _ ops draw,s=>
  match uD P glob call ops.toList s.nx ops.toList 0 ⟨s.slots,s.heap,s.nx+ab ops.toList,s.n⟩ [] with
  | some (s',feet)=>match draw with
   |false=>some (.normal,s')
   |true=>match ka ops.toList&&jk (eh ops.toList []) feet with
    |true=>some (.normal,s')
    |false=>none
  |none=>none
 | .seq a b,s=>match gS lf a s with
  |some (.normal,s')=>gS lf b s'
  |r=>r
 | .cond c a b,s=>match M7 (bq s.slots c) with
  |some true=>gS lf a s
  |some false=>gS lf b s
  |_=>none
 | .block id body,s=>match gS lf body s with
  |some (.exit i,s')=>match Nat.beq i id with
   |true=>some (.normal,s')
   |false=>some (.exit i,s')
  |r=>r
 | .loop body,s=>kb (gS lf body) lf s
 | .exit id,s=>some (.exit id,s)
 | .ret,s=>some (.ret,s)
 |_,_=>none
theorem M8 (lf:Nat) (c:Code):gS P glob call lf c=bZ P glob call lf c:=by
 induction c with
 |region id ops draw=>funext s;simp only[gS,bZ,D9];rfl
 |seq a b iha ihb=>funext s;simp only[gS,bZ,iha,ihb];rfl
 | cond c a b iha ihb=>
  funext s
  simp only[gS,bZ,iha,ihb]
  cases bq s.slots c with
  |none=>rfl
  |some v=>
   cases v<;>first|rfl|skip
   rename_i b;cases b<;>rfl
 |block id body ih=>funext s;simp only[gS,bZ,ih];rfl
 |loop body ih=>funext s;simp only[gS,bZ,ih]
 |_=>rfl
end
def jw (P:Program) (O:bi) (call:bd) (f:FuncId) (args:List AV) (h:ae) (nx:Nat):Option (AV × ae × Nat):=
  match P.funcs[f]? with
  | some fn=>match fn.body with
    | some c=>match fn.name== "runtime.NumGoroutine" with
      |true=>none
      | false=>match Nat.ble (ab args) fn.ntmps&&Nat.ble fn.ntmps 4095 with
       |false=>none
       |true=>match gS P O.glob call O.lf c ⟨dE args 0 .tip,h,nx,fn.ntmps⟩ with
        | some (.normal,s)|some (.ret,s)=>match dC P O.glob s fn.results.toList with
          |some l=>some (dD l,s.heap,s.nx)
          |none=>none
        |_=>none
    |none=>none
  |none=>none
theorem Ea (P:Program) (O:bi) (call:bd) (f:FuncId) (args:List AV) (h:ae) (nx:Nat):jw P O call f args h nx=dx P O call f args h nx:=by
 unfold jw dx
 simp only[M8]
 rfl
def Eb (P:Program) (O:bi) (call:bd) (d:Nat) (f:FuncId) (args:List AV) (id:Nat) (h:ae) (nx:Nat):Option (AV × ae × Nat × Foot):=
 match jw P O call f args (cv h (cf h d (b7 args []))) nx with
 |some (v,h1,_)=>match lookEnd (cf h d (b7 args [])) id nx h v h1 with
  |some r=>some (fS (cf h d (b7 args [])) id nx h r)
  |none=>none
 |none=>none
def Ec (P:Program) (O:bi) (call:bd) (d:Nat) (f:FuncId) (args:List AV) (h:ae) (nx:Nat):Option (AV × ae × Nat × Foot):=
  match jw P O call f args (cv h (cf h d (b7 args []))) nx with
  |some (v,h1,nx')=>match Nat.ble nx nx' with
   |false=>none
   |true=>some (v,Mods.app (kc (gN h1 (cf h d (b7 args []))) (gn nx h1 h1)) h,nx',⟨true,cf h d (b7 args []),nx::cf h d (b7 args [])⟩)
  |none=>none
def iS (P:Program) (O:bi):Nat→bd
 |0,_,_,_,_,_=>none
 | n +1,f,args,id,h,nx=>
  match O.how f,ad args with
  | .look d,_=>Eb P O (iS P O n) d f args id h nx
  | .each d,_=>mF P O (iS P O n) d f args id h nx
  | .clone,_=>kV P f args id h nx
  | .part d,_=>Ec P O (iS P O n) d f args h nx
  | .cmp,_=>kW P f args h nx
  | .known,_=>O.cx f args id h nx
  | .pure,true=>match O.summ f args with
   |some v=>some (v,h,nx,⟨false,[],[]⟩)
   | none=>match jw P O (iS P O n) f args [] 0 with
    | some (v,h',_)=>match aV 0 h' 40 v with
     |some v'=>match ac v' with
      |true=>some (v',h,nx,⟨false,[],[]⟩)
      |false=>none
     |none=>none
    |none=>none
  | .fresh,true=>match jw P O (iS P O n) f args [] 0 with
   |some (v,h',_)=>g9 h' v id h nx
   |none=>none
  | .pure,false=>match jw P O (iS P O n) f args h nx with
   |some (v,h',nx')=>match aV nx h' 40 v with
    |some v'=>some (v',gL nx h',nx',⟨true,[],[]⟩)
    |none=>none
   |none=>none
  |_,_=>match jw P O (iS P O n) f args h nx with
   |some (v,h',nx')=>some (v,h',nx',⟨true,[],[]⟩)
   |none=>none
theorem Ed (P:Program) (O:bi):∀n,iS P O n=aW P O n
 |0=>rfl
 |n+1=>by
  funext f args id h nx
  simp only[iS,aW,Ed P O n,Ea,Eb,Ec,mE,mG]
  rfl
theorem M9 (P:Program) (O:bi) (n:Nat) (f:FuncId) (args:List AV) (h:ae) (nx:Nat):jw P O (iS P O n) f args h nx=dx P O (aW P O n) f args h nx:=by
 rw[Ea,Ed]
end
end Go.Proofs.Abs
/- A law whose answer is known: the call. -/
namespace Go.Proofs.Abs
open Go
theorem SemCall.calls {P:Program} {G:aQ} {f:FuncId} {fn:Func} {c:Code} {args:List AV} {vs:Array Value} {w:World} (hfn:P.funcs[f]? =some fn) (hc:fn.body=some c) (hname:(fn.name== "runtime.NumGoroutine")=false)
  (h:SemCall P G f args (.bool true)) (hr:Rel G w (fun b=>b<w.heap.size) (fun _=>none) []) (ha:RepL w (fun b=>b<w.heap.size) (fun _=>none) args vs.toList):
  Calls P f vs w fun e w'=>e= .returned (.bool true)∧RowKit.Below w.heap.size w w':=by
 have e1:(callFunc f vs).run P w= .ok (.enter f vs) w:=by
  unfold callFunc
  simp only[Sem.run_bind,run_program,Result.andThen_ok,hfn,hname,hc,Bool.false_eq_true,if_false,Option.isNone_some,Sem.run_pure]
 have:=h.out w _ _ [] 0 1 vs hr ha rfl (by omega) (fun _ _=>rfl)
 rw[e1] at this
 refine Calls.mono this ?_
 rintro e w' ⟨v,rfl,⟨⟨I',α',ev,_,hv,_⟩,_⟩⟩
 cases hv
 exact ⟨rfl,ev.os.1,ev.os.2.1,ev.os.2.2,ev.size,fun k hk=>ev.frame k hk mS⟩
end Go.Proofs.Abs
/- A run in continuation form leads to one end: so calls may be followed where they stand. -/
namespace Go.Proofs.Abs
open Go
def m9 (F:(AV→ae→Nat→Foot→Prop)→Prop):Prop:=∀K,F K→∃v h nx ft,K v h nx ft∧∀K',K' v h nx ft→F K'
def uE (F:(AV→ae→Nat→Prop)→Prop):Prop:=∀K,F K→∃v h nx,K v h nx∧∀K',K' v h nx→F K'
def zx (F:(Kn→St→Foot→Prop)→Prop):Prop:=∀K,F K→∃kn s ft,K kn s ft∧∀K',K' kn s ft→F K'
def Na (F:(St→List (Nat × Foot)→Prop)→Prop):Prop:=∀K,F K→∃s ft,K s ft∧∀K',K' s ft→F K'
def r9 (F:(AExit→St→Prop)→Prop):Prop:=∀Q,F Q→∃e s,Q e s∧∀Q',Q' e s→F Q'
section
variable {P:Program} {O:bi} {n:Nat} {A:be}
theorem uF {id d:Nat} {e:Eff} {h:ae} {nx:Nat}:m9 (gq P O n id d e h nx):=by
 intro K hk
 unfold gq at hk⊢
 split at hk
 ·rename_i v h' nx' ft hr
  refine ⟨v,h',nx',ft,hk,fun K' h=> ?_⟩
  exact h
 ·exact hk.elim
def jx (A:be):Prop:=∀f T,A.inl f=some T→∀args h nx,uE (T.run args h nx)
theorem Nb {f:FuncId} {args:List AV} {h:ae} {nx:Nat} (r:oV):m9 (fun K=>oX P O f args h nx K r):=by
 intro K hk
 cases r with
 |val v=>exact ⟨v,h,nx,_,hk.2,fun K' h=>⟨hk.1,h⟩⟩
 |part L v H2 m=>exact ⟨v,_,_,_,hk.2,fun K' h=>⟨hk.1,h⟩⟩
theorem Nc {args:List AV} {h:ae} {nx:Nat} {T:rP} (hT:∀args h nx,uE (T.run args h nx)):m9 (fun K=>rQ args h nx K T):=by
 intro K hk
 obtain ⟨v,H2,nx2,h1,h2⟩:=hT _ _ _ _ hk
 obtain ⟨hle,h1⟩:=oblB_iff.1 h1
 exact ⟨v,_,_,_,h1,fun K' h=>h2 _ (oblB_iff.2 ⟨hle,h⟩)⟩
theorem Ee (hi:jx A) {id d:Nat} {f:FuncId} {args:List AV} {h:ae} {nx:Nat}:m9 (fun K=>match A.cx f args id h nx with
      |some (v,h',nx',ft)=>K v h' nx' ft
      | none=>match A.sem f args h nx with
       |some r=>oX P O f args h nx K r
       | none=>match A.inl f with
        |some T=>rQ args h nx K T
        |none=>match O.how f with
         | .pure=>match O.summ f args with
           |some v=>aC (ad args) (K v h nx ⟨false,[],[]⟩)
           |none=>gq P O n id d (.call f args) h nx K
         |_=>gq P O n id d (.call f args) h nx K):=by
  intro K hk
  simp only at hk⊢
  split at hk
  · rename_i v h' nx' ft hc
    exact ⟨v,h',nx',ft,hk,fun K' h=>by first|(rw[hc];exact h)|exact h⟩
  · rename_i hc
    split at hk
    · rename_i r hr
      obtain ⟨v,h',nx',ft,h1,h2⟩:=Nb r K hk
      exact ⟨v,h',nx',ft,h1,fun K' h=>by first|exact h2 K' h|(rw[hc,hr];exact h2 K' h)⟩
    · rename_i hr
      split at hk
      · rename_i T hT
        obtain ⟨v,h',nx',ft,h1,h2⟩:=Nc (hi f T hT) K hk
        exact ⟨v,h',nx',ft,h1,fun K' h=>by first|exact h2 K' h|(rw[hc,hr,hT];exact h2 K' h)⟩
      · rename_i hT
        split at hk
        · rename_i ho
          split at hk
          · rename_i v hs
            obtain ⟨hb,hk⟩:=oblB_iff.1 hk
            exact ⟨v,h,nx,_,hk,fun K' h=>by first|exact oblB_iff.2 ⟨hb,h⟩|(rw[hc,hr,hT,ho,hs];exact oblB_iff.2 ⟨hb,h⟩)⟩
          · rename_i hs
            obtain ⟨v,h',nx',ft,h1,h2⟩:=uF K hk
            exact ⟨v,h',nx',ft,h1,fun K' h=>by first|exact h2 K' h|(rw[hc,hr,hT,ho,hs];exact h2 K' h)⟩
        · obtain ⟨v,h',nx',ft,h1,h2⟩:=uF K hk
          exact ⟨v,h',nx',ft,h1,fun K' h=>h2 K' h⟩
theorem zy (hi:jx A) {id:Nat}:∀ (d:Nat) (e:Eff) {h:ae} {nx:Nat},m9 (fX P O n A id d e h nx):=by
 intro d
 induction d with
 | zero=>
  intro e h nx K hk
  unfold fX at hk
  split at hk
  ·obtain ⟨v,h',nx',ft,h1,h2⟩:=Ee hi K hk
   exact ⟨v,h',nx',ft,h1,fun K' h=>by unfold fX;exact h2 K' h⟩
  ·rename_i hne
   obtain ⟨v,h',nx',ft,h1,h2⟩:=uF K hk
   refine ⟨v,h',nx',ft,h1,fun K' h=> ?_⟩
   unfold fX
   split
   ·exact absurd rfl (hne _ _)
   ·exact h2 K' h
 | succ d ih=>
  intro e h nx K hk
  unfold fX at hk
  split at hk
  ·obtain ⟨v,h',nx',ft,h1,h2⟩:=Ee hi K hk
   exact ⟨v,h',nx',ft,h1,fun K' h=>by unfold fX;exact h2 K' h⟩
  ·rename_i i k
   split at hk
   ·rename_i b hb
    split at hk
    ·rename_i e' he
     obtain ⟨v,h',nx',ft,h1,h2⟩:=ih e' _ hk
     exact ⟨v,h',nx',_,h1,fun K' h=>by unfold fX;simp only[hb,he];exact h2 _ h⟩
    ·exact hk.elim
   ·exact hk.elim
  ·rename_i hne hnr
   obtain ⟨v,h',nx',ft,h1,h2⟩:=uF K hk
   refine ⟨v,h',nx',ft,h1,fun K' h=> ?_⟩
   unfold fX
   split
   ·exact absurd rfl (hne _ _)
   ·exact absurd rfl (hnr _ _)
   ·exact h2 K' h
theorem Nd (hi:jx A) {id:Nat} {h:ae} {nx:Nat} (oe:Option ES):m9 (fun K=>rR P O n A id h nx K oe):=by
 intro K hk
 cases oe with
 |none=>exact hk.elim
 | some es=>cases es with
  |eff e=>exact zy hi 2 e K hk
  |obl b e=>
   obtain ⟨hb,hk⟩:=oblB_iff.1 hk
   obtain ⟨v,h',nx',ft,h1,h2⟩:=zy hi 2 e K hk
   exact ⟨v,h',nx',ft,h1,fun K' h=>oblB_iff.2 ⟨hb,h2 K' h⟩⟩
  | app b i k v=>
   obtain ⟨hb,hk⟩:=oblB_iff.1 hk
   split at hk
   ·rename_i l hl
    obtain ⟨hq,hk⟩:=oblB_iff.1 hk
    refine ⟨_,_,_,_,hk,fun K' h=>oblB_iff.2 ⟨hb, ?_⟩⟩
    simp only[hl]
    exact oblB_iff.2 ⟨hq,h⟩
   ·exact hk.elim
  | put b i k v=>
   obtain ⟨hb,hk⟩:=oblB_iff.1 hk
   split at hk
   ·rename_i l hl
    obtain ⟨hq,hk⟩:=oblB_iff.1 hk
    refine ⟨_,_,_,_,hk,fun K' h=>oblB_iff.2 ⟨hb, ?_⟩⟩
    simp only[hl]
    exact oblB_iff.2 ⟨hq,h⟩
   ·exact hk.elim
  | pick b x y=>
   cases b with
   |true=>cases x with
    |none=>exact hk.elim
    |some v=>exact ⟨v,h,nx,_,hk,fun K' h=>h⟩
   |false=>cases y with
    |none=>exact hk.elim
    |some v=>exact ⟨v,h,nx,_,hk,fun K' h=>h⟩
theorem Nf (hi:jx A) {ops:List Oper} {id:Nat} {o:Oper} {s:St} (a:ez):m9 (fun K=>iQ P O n A ops id o s K a):=by
 intro K hk
 cases a with
 | plain=>
  simp only[iQ] at hk⊢
  split at hk
  ·rename_i e he
   exact zy hi 2 e K hk
  ·exact hk.elim
 |ans a=>
  simp only[iQ] at hk⊢
  split at hk
  ·exact ⟨_,_,_,_,hk.2,fun K' h=>⟨hk.1,h⟩⟩
  ·exact hk.elim
 | el v=>
  simp only[iQ] at hk⊢
  split at hk
  ·split at hk
   ·split at hk
    ·split at hk
     ·obtain ⟨hg,hk⟩:=hk
      obtain ⟨hb,hk⟩:=oblB_iff.1 hk
      exact ⟨_,_,_,_,hk,fun K' h=>⟨hg,oblB_iff.2 ⟨hb,h⟩⟩⟩
     ·exact hk.elim
    ·exact hk.elim
   ·exact hk.elim
  ·exact hk.elim
 | ld v=>
  simp only[iQ] at hk⊢
  split at hk
  ·split at hk
   ·split at hk
    ·exact ⟨_,_,_,_,hk.2,fun K' h=>⟨hk.1,h⟩⟩
    ·exact hk.elim
   ·exact ⟨_,_,_,_,hk.2,fun K' h=>⟨hk.1,h⟩⟩
   ·exact ⟨_,_,_,_,hk.2,fun K' h=>⟨hk.1,h⟩⟩
   ·exact hk.elim
  ·exact hk.elim
 |res r=>
  simp only[iQ] at hk⊢
  split at hk
  ·exact ⟨_,_,_,_,hk.2,fun K' h=>⟨hk.1,h⟩⟩
  ·exact hk.elim
theorem sc (hi:jx A) {rid:Nat} {ops:List Oper} {id i:Nat} {o:Oper} {s:St} {kn:Kn}:zx (iR P O n A rid ops id i o s kn):=by
 intro K hk
 unfold iR at hk
 split at hk
 ·rename_i a ha
  obtain ⟨v,h',nx',ft,h1,h2⟩:=Nf hi a _ hk
  exact ⟨_,_,_,h1,fun K' h=>by unfold iR;simp only[ha];exact h2 _ h⟩
 ·rename_i ha
  obtain ⟨v,h',nx',ft,h1,h2⟩:=Nd hi _ _ hk
  exact ⟨_,_,_,h1,fun K' h=>by unfold iR;simp only[ha];exact h2 _ h⟩
theorem sd {o:Oper} {s:St} {kn:Kn}:zx (m5 o s kn):=fun _K hk=>⟨_,_,_,hk,fun _ h=>h⟩
theorem Ng (hi:jx A) {rid:Nat} {ops:List Oper} {id i:Nat} {o:Oper} {s:St} {kn:Kn}:zx (rT P O n A rid ops id i o s kn):=by
 intro K hk
 unfold rT at hk⊢
 split at hk
 ·exact sc hi K hk
 ·split at hk
  ·split at hk
   ·split at hk
    ·split at hk
     ·split at hk
      ·exact sc hi K hk
      ·exact sd K hk
     ·split at hk
      ·exact sd K hk
      ·exact sc hi K hk
    ·split at hk
     ·split at hk
      ·split at hk
       ·exact sc hi K hk
       ·exact sd K hk
      ·split at hk
       ·exact sd K hk
       ·exact sc hi K hk
     ·exact sd K hk
     ·exact hk.elim
   ·exact hk.elim
  ·exact hk.elim
theorem Ef (hi:jx A) {rid:Nat} {all:List Oper} {base:Nat}:∀ (rest:List Oper) (i:Nat) (s:St) (kn:Kn) (acc:List (Nat × Foot)),Na (rU P O n A rid all base rest i s kn acc)
 |[],_,_,_,_=>fun _ hk=>⟨_,_,hk,fun _ h=>h⟩
 |o::rest,i,s,kn,acc=>fun K hk=>by
  obtain ⟨kn',s',ft,h1,h2⟩:=Ng hi _ hk
  obtain ⟨s2,ft2,h3,h4⟩:=Ef hi rest (i+1) s' kn' _ _ h1
  exact ⟨s2,ft2,h3,fun K' h=>h2 _ (h4 K' h)⟩
theorem Eg {B:St→(AExit→St→Prop)→Prop} (hB:∀s,r9 (B s)):∀ (k:Nat) (s:St),r9 (un B k s)
 |0,_=>fun _ hk=>hk.elim
 | k+1,s=>fun Q hk=>by
  obtain ⟨e,s',h1,h2⟩:=hB s _ hk
  cases e with
  |normal=>
   obtain ⟨e,s2,h3,h4⟩:=Eg hB k s' Q h1
   exact ⟨e,s2,h3,fun Q' h=>h2 _ (h4 Q' h)⟩
  |exit i=>exact ⟨_,_,h1,fun Q' h=>h2 _ h⟩
  |ret=>exact ⟨_,_,h1,fun Q' h=>h2 _ h⟩
theorem Nh (hi:jx A) (hcut:A.cut=iP) (hls:∀r L,A.ls r=some L→∀s,r9 (L s)):∀ (c:Code) (s:St),r9 (aw P O n A c s):=by
 intro c
 induction c with
 |skip=>exact fun s Q hk=>⟨_,_,hk,fun _ h=>h⟩
 |label l=>exact fun s Q hk=>⟨_,_,hk,fun _ h=>h⟩
 |exit i=>exact fun s Q hk=>⟨_,_,hk,fun _ h=>h⟩
 |ret=>exact fun s Q hk=>⟨_,_,hk,fun _ h=>h⟩
 | region rid ops draw=>
  intro s Q hk
  simp only[aw,hcut,iP,rV] at hk⊢
  obtain ⟨s',ft,h1,h2⟩:=Ef hi _ _ _ _ _ _ hk
  cases draw with
  |false=>exact ⟨_,_,h1,fun Q' h=>h2 _ h⟩
  |true=>
   obtain ⟨hb,h1⟩:=oblB_iff.1 h1
   exact ⟨_,_,h1,fun Q' h=>h2 _ (oblB_iff.2 ⟨hb,h⟩)⟩
 | seq a b iha ihb=>
  intro s Q hk
  simp only[aw] at hk⊢
  obtain ⟨e,s',h1,h2⟩:=iha s _ hk
  cases e with
  |normal=>
   obtain ⟨e,s2,h3,h4⟩:=ihb s' Q h1
   exact ⟨e,s2,h3,fun Q' h=>h2 _ (h4 Q' h)⟩
  |exit i=>exact ⟨_,_,h1,fun Q' h=>h2 _ h⟩
  |ret=>exact ⟨_,_,h1,fun Q' h=>h2 _ h⟩
 | cond c a b iha ihb=>
  intro s Q hk
  simp only[aw] at hk⊢
  split at hk
  ·split at hk
   ·exact iha _ Q hk
   ·exact ihb _ Q hk
  ·exact hk.elim
 | block id body ih=>
  intro s Q hk
  simp only[aw] at hk⊢
  obtain ⟨e,s',h1,h2⟩:=ih s _ hk
  cases e with
  |normal=>exact ⟨_,_,h1,fun Q' h=>h2 _ h⟩
  |ret=>exact ⟨_,_,h1,fun Q' h=>h2 _ h⟩
  | exit i=>
   simp only[oQ] at h1
   split at h1
   ·rename_i hb
    exact ⟨_,_,h1,fun Q' h=>h2 _ (by simp only[oQ,hb];exact h)⟩
   ·rename_i hb
    exact ⟨_,_,h1,fun Q' h=>h2 _ (by simp only[oQ,hb];exact h)⟩
 | loop body ih=>
  intro s Q hk
  simp only[aw] at hk⊢
  split at hk
  ·rename_i L hL
   exact hls _ L hL s Q hk
  ·exact Eg ih _ s Q hk
 |_=>exact fun s Q hk=>hk.elim
theorem Eh (hi:jx A) (hcut:A.cut=iP) (hls:∀r L,A.ls r=some L→∀s,r9 (L s)) {f:FuncId} {args:List AV} {H:ae} {nx:Nat}:uE (aL P O n A f args H nx):=by
 intro K hk
 unfold aL at hk
 split at hk
 ·rename_i fn hfn
  split at hk
  ·rename_i c hc
   split at hk
   ·exact hk.elim
   ·rename_i hname
    split at hk
    ·exact hk.elim
    ·rename_i hsz
     obtain ⟨e,s,h1,h2⟩:=Nh hi hcut hls c _ _ hk
     have fin:∀ {e:AExit},(∀i,e≠ .exit i)→(match e with
       | .exit _=>False
       |_=>match dC P O.glob s fn.results.toList with
        |some l=>K (dD l) s.heap s.nx
        |none=>False)→∃l,dC P O.glob s fn.results.toList=some l∧K (dD l) s.heap s.nx:=fun {e} hne h=>by
      split at h
      ·exact h.elim
      ·split at h
       ·rename_i l hl
        exact ⟨l,hl,h⟩
       ·exact h.elim
     have back:∀ {l:List AV},dC P O.glob s fn.results.toList=some l→(∀i,e≠ .exit i)→∀K':AV→ae→Nat→Prop,K' (dD l) s.heap s.nx→aL P O n A f args H nx K':=fun {l} hl hne K' h=>by
      unfold aL
      simp only[hfn,hc,hname,hsz]
      refine h2 _ ?_
      split
      ·exact absurd rfl (hne _)
      ·simp only[hl];exact h
     cases e with
     |exit i=>exact h1.elim
     |normal=>
      obtain ⟨l,hl,hK⟩:=fin (e:= .normal) (fun _ h=>by cases h) h1
      exact ⟨_,_,_,hK,fun K' h=>back hl (fun _ h=>by cases h) K' h⟩
     |ret=>
      obtain ⟨l,hl,hK⟩:=fin (e:= .ret) (fun _ h=>by cases h) h1
      exact ⟨_,_,_,hK,fun K' h=>back hl (fun _ h=>by cases h) K' h⟩
  ·exact hk.elim
 ·exact hk.elim
theorem Ni (B:dp P O n) (hA:dq P O A) (hi:jx A) (hcut:A.cut=iP) (hls:A.ls=fun _=>none) {f:FuncId} {args:List AV} {h:ae} {nx:Nat} {K:AV→ae→Nat→Prop} (hk:aL P O n A f args h nx K):
  ∃v h' nx',K v h' nx'∧BodySem P O.glob f args h nx v h' nx':=by
 obtain ⟨v,h',nx',h1,h2⟩:=Eh hi hcut (fun r L hL=>by rw[hls] at hL;cases hL) K hk
 exact ⟨v,h',nx',h1,yO B hA (MA fun r=>by rw[hls]) (h2 _ ⟨rfl,rfl,rfl⟩)⟩
end
noncomputable def lq (P:Program) (O:bi) (n:Nat) (sem:dj) (isI:FuncId→Option (List AV→ae→List Nat)):Nat→FuncId→Option rP
 |0=>fun _=>none
 |d+1=>fun f=>match isI f with
  |some see=>some ⟨see,aL P O n ⟨fun _ _=>none,fun _=>none,o7,sem,lq P O n sem isI d,iP⟩ f⟩
  |none=>none
section
variable {P:Program} {O:bi} {n:Nat} {sem:dj} {isI:FuncId→Option (List AV→ae→List Nat)}
theorem Ei:∀ (d:Nat) f T,lq P O n sem isI d f=some T→∀args h nx,uE (T.run args h nx)
 |0,_,_,h=>by cases h
 | d+1,f,T,h=>by
  simp only[lq] at h
  split at h
  ·simp only[Option.some.injEq] at h
   subst h
   exact fun args h nx=>Eh (A:=⟨fun _ _=>none,fun _=>none,o7,sem,lq P O n sem isI d,iP⟩) (fun f T hT=>Ei d f T hT) rfl (fun r L hL=>by cases hL)
  ·cases h
theorem Ej (B:dp P O n) (hsum:∀f args v,O.summ f args=some v→SemCall P O.glob f args v):∀ (d:Nat) f T,lq P O n sem isI d f=some T→∀args h nx K,T.run args h nx K→∃v h' nx',K v h' nx'∧BodySem P O.glob f args h nx v h' nx'
 |0,_,_,h=>by cases h
 | d+1,f,T,h=>by
  simp only[lq] at h
  split at h
  ·simp only[Option.some.injEq] at h
   subst h
   exact fun args h nx K hk=>Ni B (A:=⟨fun _ _=>none,fun _=>none,o7,sem,lq P O n sem isI d,iP⟩) ⟨ur,hsum,fun f T hT=>Ej B hsum d f T hT,fun _ _ h=>(by cases h)⟩ (fun f T hT=>Ei d f T hT) rfl rfl hk
  ·cases h
end
def Nj:List AV→ae→List Nat:=fun _ h=>h.map (·.1)
def Nk:List AV→ae→List Nat:=fun _ _=>[]
def Nl:List FuncId→List FuncId→FuncId→Option (List AV→ae→List Nat):=fun pure all f=>match fa pure f with
 |true=>some Nk
 |false=>match fa all f with
  |true=>some Nj
  |false=>none
noncomputable def Ek (P:Program) (O:bi) (n:Nat) (hint:Nat→Nat→Option ez) (ls:Nat→Option bg) (sem:dj) (isI:FuncId→Option (List AV→ae→List Nat)):be:=⟨hint,ls,o7,sem,lq P O n sem isI 8,iP⟩
theorem Nm {P:Program} {O:bi} {n:Nat} {hint:Nat→Nat→Option ez} {ls:Nat→Option bg} {sem:dj} {isI:FuncId→Option (List AV→ae→List Nat)} (B:dp P O n) (h:∀f args v,O.summ f args=some v→SemCall P O.glob f args v):dq P O (Ek P O n hint ls sem isI):=
 ⟨ur,h,fun f T hT=>Ej B h 8 f T hT,fun _ _ h=>(by cases h)⟩
end Go.Proofs.Abs
/- What calls answer, by their numbers; values that say less; items as trees. -/
namespace Go.Proofs.Abs
open Go
noncomputable section
def cz:List (FuncId × AV)→dj
 |[],_,_,_,_=>none
 |(f,v)::t,g,a,h,nx=>match Nat.beq g f with
  |true=>some (.val v)
  |false=>cz t g a h nx
def jy:List (FuncId × (List AV→Option AV))→dj
 |[],_,_,_,_=>none
 | (f,k)::t,g,a,h,nx=>match Nat.beq g f with
  |true=>match k a with
   |some v=>some (.val v)
   |none=>none
  |false=>jy t g a h nx
structure Wk (v v':AV):Prop where
 out:∀w I α x,Rep w I α v x→Rep w I α v' x
structure WkL (l l':List AV):Prop where
 out:∀w I α x,RepL w I α l x→RepL w I α l' x
 len:l.length=l'.length
 at_:∀ (i:Nat) x y,l[i]? =some x→l'[i]? =some y→Wk x y
theorem Wk.refl (v:AV):Wk v v:=⟨fun _ _ _ _ h=>h⟩
theorem Wk.trans {u v w:AV} (h:Wk u v) (h':Wk v w):Wk u w:=⟨fun _ _ _ _ r=>h'.out _ _ _ _ (h.out _ _ _ _ r)⟩
theorem WkL.nil:WkL [] []:=⟨fun _ _ _ _ h=>h,rfl,by simp⟩
theorem WkL.refl (l:List AV):WkL l l:=⟨fun _ _ _ _ h=>h,rfl,fun i x y h1 h2=>by rw[h1] at h2;cases h2;exact .refl x⟩
theorem WkL.cons {a b:AV} {t u:List AV} (h:Wk a b) (ht:WkL t u):WkL (a::t) (b::u):=
 ⟨fun w I α x r=>by
  obtain ⟨y,v',rfl,h1,h2⟩:=RepL.cons_inv r
  exact .cons (h.out _ _ _ _ h1) (ht.out _ _ _ _ h2),by simp[ht.len],fun i x y h1 h2=>by
  cases i with
  |zero=>simp at h1 h2;subst h1;subst h2;exact h
  |succ i=>simp at h1 h2;exact ht.at_ i x y h1 h2⟩
theorem WkL.append {a b c d:List AV} (h:WkL a b) (h':WkL c d):WkL (a++c) (b++d):=by
 have hl:=h.len
 have hl':=h'.len
 refine ⟨fun w I α x r=>⟨by have:=r.1;simp only[List.length_append] at this⊢;omega,fun i p q e1 e2=> ?_⟩,by simp only[List.length_append];omega,fun i p q e1 e2=> ?_⟩
 ·have hi:i<(a++c).length:=by
   have:i<(b++d).length:=by
    rcases Nat.lt_or_ge i (b++d).length with h|h
    ·exact h
    ·rw[List.getElem?_eq_none h] at e1;cases e1
   simp only[List.length_append] at this⊢;omega
  have r':=r.2 i _ q (List.getElem?_eq_getElem hi) e2
  have key:Wk ((a++c)[i]) p:=by
   have e3:=List.getElem?_eq_getElem hi
   by_cases hlt:i<a.length
   ·rw[List.getElem?_append_left hlt] at e3
    rw[List.getElem?_append_left (by omega)] at e1
    exact h.at_ i _ _ e3 e1
   ·rw[List.getElem?_append_right (by omega)] at e3 e1
    rw[hl] at e3
    exact h'.at_ _ _ _ e3 e1
  exact key.out _ _ _ _ r'
 ·by_cases hlt:i<a.length
  ·rw[List.getElem?_append_left hlt] at e1
   rw[List.getElem?_append_left (by omega)] at e2
   exact h.at_ i _ _ e1 e2
  ·rw[List.getElem?_append_right (by omega)] at e1 e2
   rw[hl] at e1
   exact h'.at_ _ _ _ e1 e2
theorem Wk.nil {f:Bool}:Wk .nilsl (.fsl f []):=⟨fun w I α x h=>by
 cases h
 exact .fsl f [] none 0 0 0 0 0 (fun _ _=>undef) rfl (Nat.le_refl _) (fun _=>rfl) (.inr ⟨rfl,rfl⟩) (fun h=>absurd rfl h) (by simp) (by simp) (by simp)⟩
theorem Wk.full {l:List AV}:Wk (.fsl true l) (.fsl false l):=⟨fun w I α x h=>by
 cases h with
 |fsl _ _ a len cap sz b base g hl hc hf ha hI hs hg hr=>
  exact .fsl false l a len cap sz b base g hl hc (fun h=>by cases h) ha hI hs hg hr⟩
theorem Wk.row {f:Bool} {l:List AV}:Wk (.fsl f l) (.fsl false l):=by
 cases f with
 |true=>exact .full
 |false=>exact .refl _
theorem Wk.els {l l':List AV} (hlen:l.length=l'.length) (h:∀ (i:Nat) (x y:AV),l[i]? =some x→l'[i]? =some y→WkL x.cells y.cells):Wk (.fsl false l) (.fsl false l'):=⟨fun w I α x hx=>by
 have get:∀ (i:Nat) (y:AV),l'[i]? =some y→∃x:AV,l[i]? =some x∧WkL x.cells y.cells:=fun i y hy=>by
  have hi:i<l.length:=by
   rw[hlen]
   rcases Nat.lt_or_ge i l'.length with h|h
   ·exact h
   ·rw[List.getElem?_eq_none h] at hy;cases hy
  exact ⟨_,List.getElem?_eq_getElem hi,h i _ _ (List.getElem?_eq_getElem hi) hy⟩
 cases hx with
 | fsl _ _ a len cap sz b base g hl hc hf ha hI hs hg hr=>
  have cell:∀ (i:Nat) (e:AV) (j:Nat) (c:AV),l'[i]? =some e→e.cells[j]? =some c→∃ (e0 c0:AV),l[i]? =some e0∧e0.cells[j]? =some c0∧Wk c0 c:=fun i e j c h1 h2=>by
   obtain ⟨e0,k1,k2⟩:=get i e h1
   have hj:j<e0.cells.length:=by
    rw[k2.len]
    rcases Nat.lt_or_ge j e.cells.length with h|h
    ·exact h
    ·rw[List.getElem?_eq_none h] at h2;cases h2
   exact ⟨e0,_,k1,List.getElem?_eq_getElem hj,k2.at_ j _ _ (List.getElem?_eq_getElem hj) h2⟩
  refine .fsl false l' a len cap sz b base g (by omega) hc (fun h=>by cases h) ?_ (fun hne=>hI fun h0=>hne ?_) (fun e he=> ?_) (fun i e j c h1 h2=> ?_) (fun i e j c h1 h2=> ?_)
  ·exact ha
  ·subst h0;exact List.eq_nil_of_length_eq_zero hlen.symm
  ·obtain ⟨i,hi⟩:=List.getElem?_of_mem he
   obtain ⟨e0,k1,k2⟩:=get i e hi
   rw[←k2.len]
   exact hs e0 (List.mem_of_getElem? k1)
  ·obtain ⟨e0,c0,k1,k2,_⟩:=cell i e j c h1 h2
   exact hg i e0 j c0 k1 k2
  ·obtain ⟨e0,c0,k1,k2,k3⟩:=cell i e j c h1 h2
   exact k3.out _ _ _ _ (hr i e0 j c0 k1 k2)⟩
structure WkE (l l':List AV):Prop where
 len:l.length=l'.length
 at_:∀ (i:Nat) (x y:AV),l[i]? =some x→l'[i]? =some y→WkL x.cells y.cells
theorem WkE.nil:WkE [] []:=⟨rfl,by simp⟩
theorem WkE.refl (l:List AV):WkE l l:=⟨rfl,fun i x y h1 h2=>by rw[h1] at h2;cases h2;exact .refl _⟩
theorem WkE.cons {x y:AV} {l l':List AV} (h:WkL x.cells y.cells) (t:WkE l l'):WkE (x::l) (y::l'):=
 ⟨by simp[t.len],fun i x' y' h1 h2=>by
  cases i with
  |zero=>simp at h1 h2;subst h1;subst h2;exact h
  |succ i=>simp at h1 h2;exact t.at_ i x' y' h1 h2⟩
theorem WkE.consA {a b:List AV} {l l':List AV} (h:WkL a b) (t:WkE l l'):WkE (.agg a::l) (.agg b::l'):= .cons h t
theorem WkE.map {α:Type} {f g:α→AV} {l:List α} (h:∀x∈l,WkL (f x).cells (g x).cells):WkE (l.map f) (l.map g):=
 ⟨by simp,fun i x y h1 h2=>by
  rw[List.getElem?_map,Option.map_eq_some_iff] at h1 h2
  obtain ⟨a,ha,rfl⟩:=h1
  obtain ⟨b,hb,rfl⟩:=h2
  rw[ha] at hb;cases hb
  exact h a (List.mem_of_getElem? ha)⟩
theorem Wk.rows {f:Bool} {l l':List AV} (h:WkE l l'):Wk (.fsl f l) (.fsl false l'):=Wk.row.trans (.els h.len h.at_)
theorem Wk.agg {l l':List AV} (h:WkL l l'):Wk (.agg l) (.agg l'):=⟨fun w I α x r=>by
 obtain ⟨a',rfl,h1⟩:=Rep.agg_iff.1 r
 exact Rep.agg_iff.2 ⟨a',rfl,h.out _ _ _ _ h1⟩⟩
theorem Wk.tuple {l l':List AV} (h:WkL l l'):Wk (.tuple l) (.tuple l'):=⟨fun w I α x r=>by
 obtain ⟨a',rfl,h1⟩:=Rep.tuple_iff.1 r
 exact Rep.tuple_iff.2 ⟨a',rfl,h.out _ _ _ _ h1⟩⟩
theorem Wk.iface {t:TypeId} {v v':AV} (h:Wk v v'):Wk (.iface t v) (.iface t v'):=⟨fun w I α x r=>by
 cases r with
 |iface _ _ v'' hv=>exact .iface t _ _ (h.out _ _ _ _ hv)⟩
theorem Wk.func {fn:Fn} {a c a' c':List AV} (h1:WkL a a') (h2:WkL c c'):Wk (.func fn a c) (.func fn a' c'):=⟨fun w I α x r=>by
 obtain ⟨u,v,rfl,k1,k2⟩:=Rep.func_iff.1 r
 exact Rep.func_iff.2 ⟨u,v,rfl,h1.out _ _ _ _ k1,h2.out _ _ _ _ k2⟩⟩
theorem Wk.fptr {l l':List AV} {o:Nat} (h:WkL l l'):Wk (.fptr l o) (.fptr l' o):=⟨fun w I α x r=>by
 cases r with
 | fptr _ _ b base g hI hg hr=>
  have cell:∀ (j:Nat) (c:AV),l'[j]? =some c→∃c0:AV,l[j]? =some c0∧Wk c0 c:=fun j c h2=>by
   have hj:j<l.length:=by
    rw[h.len]
    rcases Nat.lt_or_ge j l'.length with h|h
    ·exact h
    ·rw[List.getElem?_eq_none h] at h2;cases h2
   exact ⟨_,List.getElem?_eq_getElem hj,h.at_ j _ _ (List.getElem?_eq_getElem hj) h2⟩
  refine .fptr l' o b base g hI (fun j c hc=> ?_) (fun j c hc=> ?_)
  ·obtain ⟨c0,k1,_⟩:=cell j c hc
   exact hg j c0 k1
  ·obtain ⟨c0,k1,k2⟩:=cell j c hc
   exact k2.out _ _ _ _ (hr j c0 k1)⟩
theorem Nn {f:Bool} {w:World} {I:Nat→Prop} {α:Nat→Option Nat} {x:Value} (h:Rep w I α (.fsl f []) x):Rep w I α .nilsl x∨Rep w I α .nesl x:=by
 cases h with
 |fsl _ _ a len cap sz b base g hl hc hf ha hI hs hg hr=>
  obtain rfl:len=0:=by simpa using hl.symm
  rcases ha with rfl|⟨rfl,rfl⟩
  ·exact .inr (.nesl _ _)
  ·exact .inl .nilsl
section
variable {P:Program} {G:aQ} {f:FuncId} {args args':List AV} {v v':AV}
theorem Np {Q Q':Value→World→Prop} {r:Result Next} (h:fV P Q r) (hq:∀v w,Q v w→Q' v w):fV P Q' r:=by
 unfold fV at h⊢
 split at h
 ·exact hq _ _ h
 ·exact hq _ _ h
 ·exact Calls.mono h fun e w' ⟨v,h1,h2⟩=>⟨v,h1,hq _ _ h2⟩
 ·exact h
theorem SemCall.wk (h:SemCall P G f args' v) (ha:WkL args args') (hv:Wk v v'):SemCall P G f args v':=
 ⟨fun w I α H rid nx vs r hr h1 h2 h3=>Np (h.out w I α H rid nx vs r (ha.out _ _ _ _ hr) h1 h2 h3) fun _ _ ⟨⟨I',α',q1,q2,q3,q4⟩,hle⟩=>⟨⟨I',α',q1,q2,hv.out _ _ _ _ q3,q4⟩,hle⟩⟩
theorem SemCall.res (h:SemCall P G f args v) (hv:Wk v v'):SemCall P G f args v':=h.wk (.refl _) hv
theorem SemCall.empty (h1:SemCall P G f [.nilsl] v) (h2:SemCall P G f [.nesl] v):SemCall P G f [.fsl false []] v:=
 ⟨fun w I α H rid nx vs r hr k1 k2 k3=>by
  obtain ⟨y,v',e,hy,ht⟩:=RepL.cons_inv hr
  have:RepL w I α [.nilsl] vs.toList∨RepL w I α [.nesl] vs.toList:=by
   rw[e]
   rcases Nn hy with h|h
   ·exact .inl (.cons h ht)
   ·exact .inr (.cons h ht)
  rcases this with h|h
  ·exact h1.out w I α H rid nx vs r h k1 k2 k3
  ·exact h2.out w I α H rid nx vs r h k1 k2 k3⟩
end
inductive It where
 |mk (tag ty n:Int) (data:List UInt8) (kids:List It)
mutual
def bu:It→AV
 | .mk t y n d ks=> .agg [.int .i64 t,.int .i64 y,.int .i64 n,.fsl false (ap d),.fsl false (an ks)]
def an:List It→List AV
 |[]=>[]
 |k::r=>bu k::an r
end
mutual
def dF (m:Nat):It→Prop
 | .mk _ _ _ d ks=>d.length≤m∧ks.length≤m∧kp m ks
def kp (m:Nat):List It→Prop
 |[]=>True
 |k::r=>dF m k∧kp m r
end
mutual
def dG:It→It→Bool
 | .mk t y n d ks,.mk t' y' n' d' ks'=>aF t t'&&(aF y y'&&(aF n n'&&(aB d d'&&eA ks ks')))
def eA:List It→List It→Bool
 |[],[]=>true
 |k::r,k'::r'=>dG k k'&&eA r r'
 |_,_=>false
end
mutual
theorem Nq:∀x y:It,dG x y=true↔x=y
 | .mk t y n d ks,.mk t' y' n' d' ks'=>by
  simp only[dG,Bool.and_eq_true,beqInt_iff,beqBytes_iff,zz ks ks',It.mk.injEq]
theorem zz:∀l r:List It,eA l r=true↔l=r
 |[],[]=>by simp[eA]
 |[],_::_=>by simp[eA]
 |_::_,[]=>by simp[eA]
 |k::r,k'::r'=>by simp only[eA,Bool.and_eq_true,Nq k k',zz r r',List.cons.injEq]
end
theorem El {l r:List It} (h:eA l r=true):l.length=r.length:=by rw[(zz l r).1 h]
@[simp] theorem Em {k:IntKind} {n:Int}:(AV.int k n).one=true:=rfl
@[simp] theorem En {s:List UInt8}:(AV.str s).one=true:=rfl
@[simp] theorem Eo {b:Bool}:(AV.bool b).one=true:=rfl
@[simp] theorem Nr {f:Bool} {l:List AV}:(AV.fsl f l).one=true:=rfl
theorem Ep {P:Program} {t:TypeId} {l:List AV} {n:Nat} (h:eY P t=some true) (hl:Nat.beq (ab l) n=true) (ho:aS l=true):cQ P t (.agg l) n=true:=by simp only[cQ,h,AV.cells,hl,ho];rfl
theorem aH {b:Bool} {K:Prop} (h:b=true) (k:K):aC b K:=oblB_iff.2 ⟨h,k⟩
theorem lr:∀l:List It,an l=l.map bu
 |[]=>rfl
 |k::r=>by simp only[an,List.map_cons,lr r]
theorem okIs_iff {m:Nat}:∀ {l:List It},kp m l↔∀k∈l,dF m k
 |[]=>by simp[kp]
 |k::r=>by simp only[kp,okIs_iff (l:=r),List.forall_mem_cons]
mutual
theorem sf:∀x:It,ac (bu x)=true
 | .mk t y n d ks=>by
  have h:=fF ks
  simp[bu,ac,ad,h]
theorem fF:∀l:List It,ad (an l)=true
 |[]=>rfl
 |k::r=>by simp only[an,ad,sf k,fF r,Bool.and_self]
end
end
end Go.Proofs.Abs
/- Loops, round by round; what hints ask. -/
namespace Go.Proofs.Abs
open Go
section
variable {P:Program} {G:aQ} {nx0:Nat} {s s2:St} {Q:AExit→St→Prop} {body:Code}
structure ALp (P:Program) (G:aQ) (nx0:Nat) (body:Code) (s:St) (Q:AExit→St→Prop):Prop where
 out:∃k,ARnd P G nx0 body Q k s
theorem ALp.loop (h:ALp P G nx0 body s Q):AWp P G nx0 (.loop body) s Q:=by
 obtain ⟨k,h⟩:=h
 exact .loop k h
theorem ARnd.says (hs:Says2 G nx0 s s2):∀ {k:Nat},ARnd P G nx0 body Q k s2→ARnd P G nx0 body Q k s
 |0,h=>h
 |_+1,h=>AWp.says hs h
theorem ALp.says (hs:Says2 G nx0 s s2) (h:ALp P G nx0 body s2 Q):ALp P G nx0 body s Q:=by
 obtain ⟨k,h⟩:=h
 exact ⟨k,h.says hs⟩
end
def bf (nx0:Nat) (lk:List (Nat × Nat)) (V:View) (N:Prop) (lk':List (Nat × Nat)) (F:View) (Q:AExit→St→Prop):AExit→St→Prop:=fun e s=>match e with
 | .normal=>bR nx0 lk V s∧N
 |e=>bR nx0 lk' F s∧Q e F.st
theorem ALp.round {P:Program} {O:bi} {n:Nat} {nx0:Nat} {Q:AExit→St→Prop} {body:Code} {A:be} {V0 V1 V2 F:View} {lk lk':List (Nat × Nat)} (B:dp P O n) (hA:dq P O A) (hls:LsOk P O.glob nx0 A body)
  (hM:Says2 O.glob nx0 V1.st V2.st) (h:aw P O n A body V0.st (bf nx0 lk V1 (ALp P O.glob nx0 body V2.st Q) lk' F Q)):ALp P O.glob nx0 body V0.st Q:=by
 have h:=yN B hA body _ _ hls h
 by_cases hN:ALp P O.glob nx0 body V2.st Q
 ·obtain ⟨k,hk⟩:=hN
  refine ⟨k+1,h.saysEnd fun e s hq=> ?_⟩
  cases e with
  |normal=>exact ⟨_,(o6 B.glob hq.1).trans hM,hk⟩
  |exit i=>exact ⟨_,o6 B.glob hq.1,hq.2⟩
  |ret=>exact ⟨_,o6 B.glob hq.1,hq.2⟩
 ·refine ⟨1,h.saysEnd fun e s hq=> ?_⟩
  cases e with
  |normal=>exact absurd hq.2 hN
  |exit i=>exact ⟨_,o6 B.glob hq.1,hq.2⟩
  |ret=>exact ⟨_,o6 B.glob hq.1,hq.2⟩
theorem LsOk.at1 {P:Program} {G:aQ} {nx0 r1:Nat} {L1:bg} {b1:Code} {c:Code} {A:be} (hA:A.ls=ko [(r1,L1)]) (a1:br c r1=[b1]) (h1:∀s Q,L1 s Q→AWp P G nx0 (.loop b1) s Q):LsOk P G nx0 A c:=
 LsOk.many hA fun p hp b hb s Q hs=>by
  simp only[List.mem_singleton] at hp;subst hp
  rw[a1,List.mem_singleton] at hb;subst hb;exact h1 s Q hs
theorem LsOk.at2 {P:Program} {G:aQ} {nx0 r1 r2:Nat} {L1 L2:bg} {b1 b2:Code} {c:Code} {A:be} (hA:A.ls=ko [(r1,L1),(r2,L2)]) (a1:br c r1=[b1]) (a2:br c r2=[b2]) (h1:∀s Q,L1 s Q→AWp P G nx0 (.loop b1) s Q) (h2:∀s Q,L2 s Q→AWp P G nx0 (.loop b2) s Q):LsOk P G nx0 A c:=
 LsOk.many hA fun p hp b hb s Q hs=>by
  simp only[List.mem_cons,List.not_mem_nil,or_false] at hp
  rcases hp with rfl|rfl
  ·rw[a1,List.mem_singleton] at hb;subst hb;exact h1 s Q hs
  ·rw[a2,List.mem_singleton] at hb;subst hb;exact h2 s Q hs
theorem AWp.seen {P:Program} {G:aQ} {nx0:Nat} {lk:List (Nat × Nat)} {V:View} {s:St} {Q:AExit→St→Prop} {body:Code} (hg:∀g l,G g=some l→ad l=true) (hs:bR nx0 lk V s) (h:ALp P G nx0 body V.st Q):AWp P G nx0 (.loop body) s Q:=(h.says (o6 hg hs)).loop
theorem Nt {P:Program} {O:bi} {n:Nat} {f:FuncId} {args:List AV} {v:AV} (hm:P.follows .mixedOrders=true) (hsum:∀f args v,O.summ f args=some v→SemCall P O.glob f args v) (hcx:cb P O.glob O.cx∧cd O.cx) (hg:∀g l,O.glob g=some l→ad l=true)
  (h:∀id h nx,aW P O n f args id h nx=some (v,h,nx,⟨false,[],[]⟩)):SemCall P O.glob f args v:=by
 obtain ⟨h1,_⟩:=rE (P:=P) (O:=O) hm hsum hg hcx n
 exact ⟨fun w I α H rid nx vs r ha hrid hlt hf=>h1 f args rid H nx v H nx _ (h rid H nx) w I α vs r ha hrid hlt hf⟩
theorem eB {P:Program} {O:bi} {n:Nat} {A:be} {f:FuncId} {args:List AV} {v:AV} (B:dp P O n) (hA:dq P O A) (hl:jv P O.glob 0 A f) (hcl:ad args=true) (hv:ac v=true)
  (h:aL P O n A f args [] 0 (fun u _ _=>u=v)):SemCall P O.glob f args v:=by
 obtain ⟨fn,c,hfn,hc,hname,hsz,hw⟩:=m8 B hA hl h
 refine DI B hfn hc hname hsz hcl fun w I a hr=>wp_mono (hw.out w I _ [] [] a w (fun _ _=>rfl) hr) ?_
 rintro e a' w' ⟨x,s',rfl,h2,hx,l,hl,hq⟩
 refine ⟨s',l, ?_,h2,hl, ?_,hv⟩
 ·rcases hx with rfl|rfl
  ·exact .inl rfl
  ·exact .inr rfl
 ·rw[hq];exact (Frz.closed v hv).out
def sg (v u:AV) (H:ae):Prop:=∃r,(∃d,aV 0 H d u=some r)∧ac r=true∧Wk r v
def gw (v u:AV):Prop:=ac u=true∧Wk u v
theorem zA {P:Program} {O:bi} {n:Nat} (B:dp P O n) {f:FuncId} {fn:Func} {c:Code} {args:List AV} {v:AV} (hfn:P.funcs[f]? =some fn) (hc:fn.body=some c) (hname:(fn.name== "runtime.NumGoroutine")=false) (hsz:(Nat.ble (ab args) fn.ntmps&&Nat.ble fn.ntmps 4095)=true)
  (hcl:ad args=true) (h:∀w I a,CR O.glob w I (fun _=>none) [] 0 [] ⟨dE args 0 .tip,[],0,fn.ntmps⟩ a w→
   c.wp P (fun e a' w'=>∃s l,(c9 .normal=e∨c9 .ret=e)∧CR O.glob w I (fun _=>none) [] 0 [] s a' w'∧dC P O.glob s fn.results.toList=some l∧sg v (dD l) s.heap) a w):
  SemCall P O.glob f args v:=by
 refine ⟨?_⟩
 intro w I α H rid nx vs r ha hrid hlt hf
 rw[Bool.and_eq_true,Nat.ble_eq,Nat.ble_eq,aI] at hsz
 have e1:(callFunc f vs).run P w= .ok (.enter f vs) w:=by
  unfold callFunc
  simp only[Sem.run_bind,run_program,Result.andThen_ok,hfn,hname,hc,Bool.false_eq_true,if_false,Option.isNone_some,Sem.run_pure]
 rw[e1]
 refine calls_of_wp hfn hc ?_
 have hra:RepL w I (fun _=>none) args vs.toList:=mR ha hcl
 have hvs:args.length=vs.size:=by rw[hra.1];simp
 have hr0:CR O.glob w I (fun _=>none) [] 0 [] ⟨dE args 0 .tip,[],0,fn.ntmps⟩ {tmps:=vs++Array.replicate (fn.ntmps-vs.size) undef,defers:=[]} w:=
  ⟨⟨I,fun _=>none,.refl,oH B.glob r,mP hra (by omega),fun i hi=>absurd hi (Nat.not_lt_zero i),fun _ _=>rfl,fun id h=>absurd rfl h⟩,Nat.le_refl _,Nat.le_refl _,rfl,by simp;omega,hsz.2⟩
 refine wp_mono (h w I _ hr0) fun e a' w' hq=> ?_
 obtain ⟨s,l,he,hr,hl,v0,⟨d,hfz⟩,hcv,hwk⟩:=hq
 obtain ⟨⟨I',α',h1,h2,h3,_,_,h6⟩,_,h8,h9,_,_⟩:=hr
 obtain ⟨u,e1,e2⟩:=mQ (P:=P) (fn:=fn) h2 h3 hl
 have hp:fW O.glob w I (fun _=>none) [] 0 (dD l) s.heap s.nx u w':=⟨⟨I',α',h1,h2,e2,h6⟩,h8⟩
 have hpost:Post O.glob w I α H rid nx v H nx u w':=by
  obtain ⟨⟨I2,α2,q1,q2,q3,q4⟩,hle⟩:=oI r hp hfz hcv
  exact ⟨⟨I2,α2,q1,q2,hwk.out _ _ _ _ q3,q4⟩,hle⟩
 rcases he with rfl|rfl<;>exact ⟨h9,u,e1,u,rfl,hpost⟩
theorem dH {P:Program} {O:bi} {n:Nat} {A:be} {f:FuncId} {args:List AV} {v:AV} (B:dp P O n) (hA:dq P O A) (hl:jv P O.glob 0 A f) (hcl:ad args=true)
  (h:aL P O n A f args [] 0 (fun u H _=>sg v u H)):SemCall P O.glob f args v:=by
 obtain ⟨fn,c,hfn,hc,hname,hsz,hw⟩:=m8 B hA hl h
 refine zA B hfn hc hname hsz hcl fun w I a hr=>wp_mono (hw.out w I _ [] [] a w (fun _ _=>rfl) hr) ?_
 rintro e a' w' ⟨x,s',rfl,h2,hx,l,hl,hq⟩
 refine ⟨s',l, ?_,h2,hl,hq⟩
 rcases hx with rfl|rfl
 ·exact .inl rfl
 ·exact .inr rfl
theorem cY {P:Program} {O:bi} {n:Nat} {A:be} {f:FuncId} {args:List AV} {v:AV} (B:dp P O n) (hA:dq P O A) (hl:jv P O.glob 0 A f) (hcl:ad args=true)
  (h:aL P O n A f args [] 0 (fun u _ _=>gw v u)):SemCall P O.glob f args v:=by
 obtain ⟨fn,c,hfn,hc,hname,hsz,hw⟩:=m8 B hA hl h
 refine zA B hfn hc hname hsz hcl fun w I a hr=>wp_mono (hw.out w I _ [] [] a w (fun _ _=>rfl) hr) ?_
 rintro e a' w' ⟨x,s',rfl,h2,hx,l,hl,hq⟩
 refine ⟨s',l, ?_,h2,hl,_,(Frz.closed _ hq.1).out,hq.1,hq.2⟩
 rcases hx with rfl|rfl
 ·exact .inl rfl
 ·exact .inr rfl
theorem o8 {v:AV} (h:ac v=true):gw v v:=⟨h,.refl v⟩
theorem sk {u v:AV} (h:u=v) (hc:ac v=true):gw v u:=by subst h;exact ⟨hc,.refl _⟩
theorem nc {n:Nat} {H:ae} {b c:Bool} (h:b=c):(∃d,aV n H d (.bool b)=some (.bool c))∧ac (.bool c)=true:=⟨⟨1,by rw[h];rfl⟩,rfl⟩
theorem uG {n:Nat} {H:ae} {k:IntKind} {a b:Int} (h:a=b):(∃d,aV n H d (.int k a)=some (.int k b))∧ac (.int k b)=true:=⟨⟨1,by rw[h];rfl⟩,rfl⟩
theorem Nu {n:Nat} {H:ae} {v:AV} (h:ac v=true):(∃d,aV n H d v=some v)∧ac v=true:=⟨(Frz.closed v h).out,h⟩
theorem CR.up {G:aQ} {w0:World} {I0:Nat→Prop} {α0:Nat→Option Nat} {H0:ae} {nx0:Nat} {D:List Deferred} {s:St} {a:Act} {w:World} {m:Nat} (h:CR G w0 I0 α0 H0 nx0 D s a w) (hm:s.nx≤m):CR G w0 I0 α0 H0 nx0 D ⟨s.slots,s.heap,m,s.n⟩ a w:=by
 obtain ⟨⟨I,α,ev,rel,hs,_,hf,hnew⟩,h7,h8,h9,h10,h11⟩:=h
 refine ⟨⟨I,α,ev,rel,hs,fun i hi=>absurd hi (Nat.not_lt_zero i),fun id hid=>hf id (Nat.le_trans hm hid),fun id hid=> ?_⟩,Nat.le_refl _,Nat.le_trans h8 hm,h9,h10,h11⟩
 rcases hnew id hid with h|h
 ·exact .inl h
 ·exact .inr ⟨h.1,Nat.lt_of_lt_of_le h.2 hm⟩
def Er (m:Nat) (V:View) (s:St):Prop:=aC (Nat.beq V.n s.n&&Nat.ble s.nx V.nx) (zd m s.heap s.slots.get (V.slots++V.refs)∧ze m s.heap V.heap)
theorem Nv {G:aQ} {nx0 m:Nat} {V:View} {s:St} (h:Er m V s):Says2 G nx0 s V.st:=by
 obtain ⟨hb,h1,h2⟩:=oblB_iff.1 h
 rw[Bool.and_eq_true] at hb
 intro w0 I0 α0 H0 D a w _ hr
 refine (hr.up (Nat.le_of_ble_eq_true hb.2)).freeze m (beq_iff.1 hb.1) rfl (fun k v hv=>DZ h1 k v (rI hv)) fun i b hi=> ?_
 obtain ⟨wh,hm⟩:=y9 hi
 exact D0 h2 i b wh hm
def Nw (m:Nat) (V:View):St→(St→Prop)→Prop:=fun s K=>Er m V s∧K V.st
def uH (r0:Nat) (C:St→(St→Prop)→Prop):Nat→Option (St→(St→Prop)→Prop):=fun r=>match Nat.beq r r0 with
 |true=>some C
 |false=>none
noncomputable def lv (A:be) (r m:Nat) (V:View):be:={A with cut:=uH r (Nw m V)}
theorem zB {P:Program} {O:bi} {A:be} {r m:Nat} {V:View} (hA:dq P O A):dq P O (lv A r m V):=
 ⟨hA.cx,hA.sum,hA.inl,fun r' C hC nx0 s K hk=>by
  simp only[lv,uH] at hC
  split at hC
  ·simp only[Option.some.injEq] at hC
   subst hC
   exact ⟨V.st,Nv hk.1,hk.2⟩
  ·cases hC⟩
section
variable {P:Program} {G:aQ}
theorem fY {t e:TypeId} {sz i:Nat} {f:Bool} {l:List AV} {v:AV} (h1:P.underlying t=some (.slice e)) (h2:bJ P e=some sz) (hv:l[i]? =some v) (hs:v.cells.length=sz):ax P t (.fsl f l) (.int .i64 (.ofNat i))=some (.fptr v.cells 0):=by
 have h5:Nat.beq (ab v.cells) sz=true:=by rw[beq_iff,aI,hs]
 simp only[ax,gm,h1,h2,fb,hv,h5,if_true,Option.bind_eq_bind,Option.bind_some]
end
end Go.Proofs.Abs
/- Objects as values. -/
namespace Go.Proofs.Abs
open Go
noncomputable section
structure Dt where
 has:Bool
 t:Int
structure Lk where
 ty:Int
 id:List UInt8
structure Cu where
 name:List UInt8
 text:List UInt8
structure Ob where
 id:List UInt8
 ty:Int
 alg:Int
 len:Int
 mask:Int
 mat:List UInt8
 st:Int
 d0:Dt
 d1:Dt
 d2:Dt
 d3:Dt
 d4:Dt
 d5:Dt
 d6:Dt
 d7:Dt
 d8:Dt
 d9:Dt
 why:Int
 msg:List UInt8
 names:List (List UInt8)
 links:List Lk
 cust:List Cu
 lh:Bool
 lt:Int
 lc:Int
 lu:Int
 arch:Bool
def bE (l:Lk):AV:= .agg [.int .i64 l.ty,.str l.id]
def aT (c:Cu):AV:= .agg [.str c.name,.str c.text]
def gz (o:Ob):AV:= .fsl false (ap o.mat)
def fe (o:Ob):AV:= .fsl false (o.names.map .str)
def ff (o:Ob):AV:= .fsl false (o.links.map bE)
def cS (o:Ob):AV:= .fsl false (o.cust.map aT)
def aa (o:Ob) (M N L C:AV):List AV:=[.str o.id,.int .i64 o.ty,.int .i64 o.alg,.int .i64 o.len,.int .i64 o.mask,M,.int .i64 o.st,
 .bool o.d0.has,.int .i64 o.d0.t,.bool o.d1.has,.int .i64 o.d1.t,.bool o.d2.has,.int .i64 o.d2.t,.bool o.d3.has,.int .i64 o.d3.t,.bool o.d4.has,.int .i64 o.d4.t,
 .bool o.d5.has,.int .i64 o.d5.t,.bool o.d6.has,.int .i64 o.d6.t,.bool o.d7.has,.int .i64 o.d7.t,.bool o.d8.has,.int .i64 o.d8.t,.bool o.d9.has,.int .i64 o.d9.t,
 .int .i64 o.why,.str o.msg,N,L,C,.bool o.lh,.int .i64 o.lt,.int .i64 o.lc,.int .i64 o.lu,.bool o.arch]
def ao (o:Ob):List AV:=aa o (gz o) (fe o) (ff o) (cS o)
def aj (o:Ob):AV:= .agg (ao o)
theorem ea:∀l:List (List UInt8),ad (l.map .str)=true
 |[]=>rfl
 |s::t=>by simp only[List.map_cons,ad,ea t,Bool.and_true];rfl
theorem o9:∀l:List Lk,ad (l.map bE)=true
 |[]=>rfl
 |s::t=>by simp only[List.map_cons,ad,o9 t,Bool.and_true];rfl
theorem lw:∀l:List Cu,ad (l.map aT)=true
 |[]=>rfl
 |s::t=>by simp only[List.map_cons,ad,lw t,Bool.and_true];rfl
theorem sm (o:Ob):ac (gz o)=true:=gu _
theorem uI (o:Ob):ac (fe o)=true:=ea _
theorem uJ (o:Ob):ac (ff o)=true:=o9 _
theorem sn (o:Ob):ac (cS o)=true:=lw _
theorem dr (o:Ob):ad (ao o)=true:=by
 simp only[ao,aa,ad,ac,sm,uI,uJ,sn,Bool.and_self]
theorem Ny (o:Ob):ac (aj o)=true:=dr o
theorem Es (o:Ob):aS (ao o)=true:=by
 simp only[ao,aa,aS,En,Em,Eo,gz,fe,ff,cS,Nr,Bool.and_self]
end
end Go.Proofs.Abs
/- Calls with closed arguments, run by themselves, whose answers say enough; bodies that say less. -/
namespace Go.Proofs.Abs
open Go
noncomputable section
def bF (P:Program) (O:bi) (n:Nat) (f:FuncId) (args:List AV):Option AV:=
 match jw P O (iS P O n) f args [] 0 with
 |some (v,h',_)=>aV 0 h' 40 v
 |none=>none
section
variable {P:Program} {O:bi} {n:Nat} {f:FuncId} {args:List AV} {v r:AV}
theorem Nz (hm:P.follows .mixedOrders=true) (hsum:∀f args v,O.summ f args=some v→SemCall P O.glob f args v) (hg:∀g l,O.glob g=some l→ad l=true) (hcx:cb P O.glob O.cx∧cd O.cx)
  (hcl:ad args=true) (h:bF P O n f args=some v) (hv:ac v=true):SemCall P O.glob f args v:=by
 unfold bF at h
 rw[M9] at h
 split at h
 ·rename_i v0 h0 m0 hr
  obtain ⟨hc,hl⟩:=rE (P:=P) (O:=O) hm hsum hg hcx n
  refine ⟨?_⟩
  intro w I α H rid nx vs r ha hrid hlt hf
  obtain ⟨e1,e2⟩:=rq hm hc hl hr (oH hg r) (mR ha hcl) (fun _ _=>rfl)
  rw[e1]
  exact Calls.mono e2 fun e w' ⟨u,h1,h2⟩=>⟨u,h1,oI r h2 h hv⟩
 ·cases h
end
def WkB:Blk→Blk→Prop
 | .cells l,.cells l'=>WkL l l'
 |b,b'=>b=b'
theorem WkB.rel {w:World} {I:Nat→Prop} {α:Nat→Option Nat} {b:Nat} {x y:Blk} (h:WkB x y) (r:BRel w I α b x):BRel w I α b y:=by
 cases x with
 | cells l=>cases y with
  |cells l'=>
   obtain ⟨c,e,h1,h2,h3⟩:=r
   have h:WkL l l':=h
   exact ⟨c,e,h1,by rw[←h.len];exact h2,by rw[←h.len];exact h.out _ _ _ _ h3⟩
  |_=>cases h
 |_=>cases y<;>first|(cases h;done)|(cases h;exact r)
def zD (k:Nat) (h:ae):ae→Prop
 |[]=>True
 |(i,some b)::t=>(Nat.blt i k=true∧∃b0 b1,hget h i=some b0∧o4 k h b0 b1∧WkB b1 b)∧zD k h t
 |(_,none)::_=>False
theorem zE {k:Nat} {h:ae}:∀ {H2:ae},zD k h H2→∀i b,hget H2 i=some b→i<k∧∃b0 b1,hget h i=some b0∧o4 k h b0 b1∧WkB b1 b
 |[],_,i,b,hb=>by cases hb
 | (j,some c)::t,he,i,b,hb=>by
  simp only[hget] at hb
  split at hb
  ·rename_i hj
   have hj:=beq_iff.1 hj
   subst hj
   cases hb
   exact ⟨blt_iff.1 he.1.1,he.1.2⟩
  ·exact zE he.2 i b hb
 |(_,none)::_,he,_,_,_=>he.elim
def uK (k:Nat) (v:AV) (H2:ae) (nx2:Nat) (u:AV) (h:ae) (m:Nat):Prop:=Nat.ble m nx2=true∧(∃r,Frz k h u r∧Wk r v)∧zD k h H2
theorem NA {G:aQ} {w w':World} {I:Nat→Prop} {α:Nat→Option Nat} {H hE H2:ae} {nx m nx2 k:Nat} {u v:AV} {x:Value} (h:fW G w I α H nx u hE m x w') (he:uK k v H2 nx2 u hE m):fW G w I α H nx v H2 nx2 x w':=by
 obtain ⟨hm,⟨r,hfr,hwk⟩,hH⟩:=he
 have hm:=Nat.le_of_ble_eq_true hm
 obtain ⟨⟨I',α',ev,rel,hrep,hnew⟩,hle⟩:=h
 have hlive:∀i,hget H2 i≠none→i<k∧hget hE i≠none:=fun i hi=>by
  cases hb:hget H2 i with
  |none=>exact absurd hb hi
  |some b=>
   obtain ⟨h1,b0,b1,h2,_⟩:=zE hH i b hb
   exact ⟨h1,by rw[h2];simp⟩
 have hown:∀b,cg α' H2 b→cg α' hE b:=fun b ⟨i,h1,h2⟩=>⟨i,(hlive i h1).2,h2⟩
 refine ⟨⟨dO I' α' hE k,α',⟨ev.os,fun b hb=> .inl (ev.I_mono b hb),ev.α_mono,ev.size,ev.frame,ev.shape,fun b hb=> ?_,fun b hb=>ev.own b (hown b hb)⟩, ?_, ?_,fun id hid=> ?_⟩,Nat.le_trans hle hm⟩
 ·rcases hb with hb|⟨id,_,h2,h3⟩
  ·exact ev.Inew b hb
  ·rcases ev.own b ⟨id,h2,h3⟩ with h|h
   ·exact .inr (.inl h)
   ·exact .inr (.inr h)
 ·exact
  {live:=fun i blk hi=>by
    obtain ⟨hmk,b0,b1,e2,e3,e4⟩:=zE hH i blk hi
    obtain ⟨b,k1,k2,k3⟩:=rel.live i b0 e2
    refine ⟨b,k1, ?_,e4.rel (DX rel e3 k3)⟩
    rintro (hb|⟨id,h1,h2,h3⟩)
    ·exact k2 hb
    ·have:=rel.inj id i b h2 (by rw[e2];simp) h3 k1
     omega
   inj:=fun i i' b h1 h2 h3 h4=>rel.inj i i' b (hlive i h1).2 (hlive i' h2).2 h3 h4
   imm:=fun b hb=>by
    rcases hb with hb|⟨id,_,_,h3⟩
    ·exact rel.imm b hb
    ·exact rel.dom id b h3
   dom:=rel.dom
   glob:=fun g l hgl=>by
    obtain ⟨h1,h2⟩:=rel.glob g l hgl
    refine ⟨.inl h1,fun j x hx=> ?_⟩
    obtain ⟨y,e1,e2⟩:=h2 j x hx
    exact ⟨y,e1,e2.mono (fun _ h=> .inl h) (fun _ _ h=>h) (fun _ _ _=>rfl) (fun _ _ _=>rfl)⟩}
 ·obtain ⟨d,hfr⟩:=hfr
  exact hwk.out _ _ _ _ (jr rel k d _ _ _ hfr hrep)
 ·rcases hnew id hid with h|h
  ·exact .inl h
  ·exact .inr ⟨h.1,Nat.lt_of_lt_of_le h.2 hm⟩
theorem ei {P:Program} {O:bi} {n:Nat} {A:be} {f:FuncId} {args:List AV} {H:ae} {nx k:Nat} {v:AV} {H2:ae} {nx2:Nat} (B:dp P O n) (hA:dq P O A) (hl:jv P O.glob nx A f)
  (h:aL P O n A f args H nx (fun u h m=>uK k v H2 nx2 u h m)):BodySem P O.glob f args H nx v H2 nx2:=by
 obtain ⟨fn,c,hfn,hc,hname,hsz,hw⟩:=m8 B hA hl h
 intro w I α vs r ha hf
 rw[Bool.and_eq_true,Nat.ble_eq,Nat.ble_eq,aI] at hsz
 refine ⟨?_, ?_⟩
 ·unfold callFunc
  simp only[Sem.run_bind,run_program,Result.andThen_ok,hfn,hname,hc,Bool.false_eq_true,if_false,Option.isNone_some,Sem.run_pure]
 ·refine calls_of_wp hfn hc ?_
  have hvs:args.length=vs.size:=by rw[ha.1];simp
  have hr0:CR O.glob w I α H nx [] ⟨dE args 0 .tip,H,nx,fn.ntmps⟩ {tmps:=vs++Array.replicate (fn.ntmps-vs.size) undef,defers:=[]} w:=
   ⟨⟨I,α,.refl,r,mP ha (by omega),fun i hi=>absurd hi (Nat.not_lt_zero i),hf,fun id h=> .inl h⟩,Nat.le_refl _,Nat.le_refl _,rfl,by simp;omega,hsz.2⟩
  refine wp_mono (hw.out w I α H [] _ w hf hr0) ?_
  rintro e a' w' ⟨x,s,rfl,hr,hx,l,hl,hq⟩
  obtain ⟨⟨I',α',h1,h2,h3,_,_,h6⟩,_,h8,h9,_,_⟩:=hr
  obtain ⟨u,e1,e2⟩:=mQ (P:=P) (fn:=fn) h2 h3 hl
  have hp:fW O.glob w I α H nx (dD l) s.heap s.nx u w':=⟨⟨I',α',h1,h2,e2,h6⟩,h8⟩
  rcases hx with rfl|rfl<;>exact ⟨h9,u,e1,u,rfl,NA hp hq⟩
theorem NC {P:Program} {G:aQ} {f:FuncId} {args:List AV} {u v:AV} {H1:ae} {m:Nat} (hg:∀g l,G g=some l→ad l=true) (hcl:ad args=true) (h:BodySem P G f args [] 0 u H1 m) (he:sg v u H1):SemCall P G f args v:=by
 refine ⟨fun w I α H rid nx vs r ha hrid hlt hf=> ?_⟩
 obtain ⟨e1,e2⟩:=h w I (fun _=>none) vs (oH hg r) (mR ha hcl) (fun _ _=>rfl)
 obtain ⟨v0,⟨d,hfz⟩,hcv,hwk⟩:=he
 rw[e1]
 refine Calls.mono e2 fun e w' ⟨x,h1,h2⟩=>⟨x,h1, ?_⟩
 obtain ⟨⟨I2,α2,q1,q2,q3,q4⟩,hle⟩:=oI r h2 hfz hcv
 exact ⟨⟨I2,α2,q1,q2,hwk.out _ _ _ _ q3,q4⟩,hle⟩
end
end Go.Proofs.Abs
/- States with blocks that may be there or not. -/
namespace Go.Proofs.Abs
open Go
noncomputable section
def ND:Option Blk→Prop
 |none=>True
 |some (.cells l)=>ad l=true
 |_=>False
structure ai (b:Option Blk):Prop where
 out:ND b
def zF (lk:List (Nat × Nat)) (h:ae):ae→Prop
 |[]=>True
 |(i,ob)::t=>(match aY lk i with
  |some j=>hget h j=ob∧ai ob
  |none=>False)∧zF lk h t
def aE (V:View) (opt:ae):St:=⟨sl (V.slots++V.refs),V.heap.heap++opt,V.nx,V.n⟩
def eC (nx0:Nat) (lk:List (Nat × Nat)) (V:View) (opt:ae) (s:St):Prop:=bR nx0 lk V s∧zF lk s.heap opt
theorem NE {a b:ae} {i:Nat} {x:Blk} (h:hget (a++b) i=some x):hget a i=some x∨hget b i=some x:=by
 induction a with
 |nil=>exact .inr h
 | cons p t ih=>
  obtain ⟨j,c⟩:=p
  cases he:Nat.beq j i with
  |true=>
   simp only[List.cons_append,hget,he] at h
   exact .inl (by simp only[hget,he];exact h)
  |false=>
   simp only[List.cons_append,hget,he] at h
   rcases ih h with h|h
   ·exact .inl (by simp only[hget,he];exact h)
   ·exact .inr h
theorem Et {lk:List (Nat × Nat)} {h:ae}:∀ {opt:ae},zF lk h opt→∀i b,hget opt i=some b→∃j b1,aY lk i=some j∧hget h j=some b1∧ju lk b b1
 |[],_,_,_,hb=>by cases hb
 | (i',ob)::t,ho,i,b,hb=>by
  simp only[hget] at hb
  split at hb
  ·rename_i he
   have he:=beq_iff.1 he
   subst he
   have h1:=ho.1
   split at h1
   ·rename_i j hj
    subst hb
    refine ⟨j,b,hj,h1.1, ?_⟩
    have hc:=h1.2.out
    cases b with
    |cells l=>exact RenL.same lk hc
    |_=>exact hc.elim
   ·exact h1.elim
  ·exact Et ho.2 i b hb
theorem pa {G:aQ} {nx0:Nat} {lk:List (Nat × Nat)} {V:View} {opt:ae} {s:St} (hg:∀g l,G g=some l→ad l=true) (h:eC nx0 lk V opt s):Says2 G nx0 s (aE V opt):=by
 obtain ⟨h,ho⟩:=h
 obtain ⟨hb,h0,h1,h2⟩:=oblB_iff.1 h
 simp only[y6,Bool.and_eq_true] at hb
 obtain ⟨⟨b1,b2,b3⟩,b4,b5⟩:=hb
 intro w0 I0 α0 H0 D a w hα hr
 refine hr.turnIn lk hg hα (beq_iff.1 b5) (fun k v hv=>by
   rcases List.mem_append.1 (rI hv) with hm|hm
   ·exact zb h0 k v hm
   ·exact za h1 k v hm) (fun i b hi=> ?_) (y7 b1) (fun i hi=> ?_) (y8 b4) (Nat.le_of_ble_eq_true b3)
 ·rcases NE hi with hi|hi
  ·obtain ⟨wh,hm⟩:=y9 hi
   exact zc h2 i b wh hm
  ·exact Et ho i b hi
 ·cases hl:aY lk i with
  |none=>rfl
  |some j=>
   have:=jp b2 i (List.mem_map.2 ⟨_,iO hl,rfl⟩)
   have hi:V.nx≤i:=hi
   omega
def roundO (nx0:Nat) (lk:List (Nat × Nat)) (V:View) (opt:ae) (N:Prop) (lk':List (Nat × Nat)) (F:View) (opt':ae) (Q:AExit→St→Prop):AExit→St→Prop:=fun e s=>match e with
 | .normal=>eC nx0 lk V opt s∧N
 |e=>eC nx0 lk' F opt' s∧Q e (aE F opt')
theorem ALp.roundO {P:Program} {O:bi} {n:Nat} {nx0:Nat} {Q:AExit→St→Prop} {body:Code} {A:be} {s0 s2:St} {V1 F:View} {opt opt':ae} {lk lk':List (Nat × Nat)} (B:dp P O n) (hA:dq P O A) (hls:LsOk P O.glob nx0 A body)
  (hM:Says2 O.glob nx0 (aE V1 opt) s2) (h:aw P O n A body s0 (roundO nx0 lk V1 opt (ALp P O.glob nx0 body s2 Q) lk' F opt' Q)):ALp P O.glob nx0 body s0 Q:=by
 have h:=yN B hA body _ _ hls h
 by_cases hN:ALp P O.glob nx0 body s2 Q
 ·obtain ⟨k,hk⟩:=hN
  refine ⟨k+1,h.saysEnd fun e s hq=> ?_⟩
  cases e with
  |normal=>exact ⟨_,(pa B.glob hq.1).trans hM,hk⟩
  |exit i=>exact ⟨_,pa B.glob hq.1,hq.2⟩
  |ret=>exact ⟨_,pa B.glob hq.1,hq.2⟩
 ·refine ⟨1,h.saysEnd fun e s hq=> ?_⟩
  cases e with
  |normal=>exact absurd hq.2 hN
  |exit i=>exact ⟨_,pa B.glob hq.1,hq.2⟩
  |ret=>exact ⟨_,pa B.glob hq.1,hq.2⟩
theorem AWp.seenO {P:Program} {G:aQ} {nx0:Nat} {lk:List (Nat × Nat)} {V:View} {opt:ae} {s:St} {Q:AExit→St→Prop} {body:Code} (hg:∀g l,G g=some l→ad l=true) (hs:eC nx0 lk V opt s) (h:ALp P G nx0 body (aE V opt) Q):AWp P G nx0 (.loop body) s Q:=(h.says (pa hg hs)).loop
end
end Go.Proofs.Abs
/- States that say less: fewer blocks. -/
namespace Go.Proofs.Abs
open Go
noncomputable section
theorem Says2.sub {G:aQ} {nx0:Nat} {s s2:St} (hs:s2.slots=s.slots) (hh:∀i b,hget s2.heap i=some b→hget s.heap i=some b) (hnx:s2.nx=s.nx) (hn:s2.n=s.n):Says2 G nx0 s s2:=by
 intro w0 I0 α0 H0 D a w hα h
 obtain ⟨⟨I,α,ev,rel,hsl,h4,hf,hnew⟩,h7,h8,h9,h10,h11⟩:=h
 have hne:∀i,hget s2.heap i≠none→hget s.heap i≠none:=fun i h=>by
  cases hi:hget s2.heap i with
  |none=>exact absurd hi h
  |some b=>rw[hh i b hi];simp
 refine ⟨⟨I,α,⟨ev.os,ev.I_mono,ev.α_mono,ev.size,ev.frame,ev.shape,ev.Inew,fun b ⟨i,h1,h2⟩=>ev.own b ⟨i,hne i h1,h2⟩⟩, ?_, ?_,fun i hi=>absurd hi (Nat.not_lt_zero i),fun id hid=>hf id (by rw[←hnx];exact hid),fun id hid=> ?_⟩,Nat.le_refl _,by rw[hnx];exact h8,h9,by rw[hn];exact h10,by rw[hn];exact h11⟩
 ·exact ⟨fun i blk hi=>rel.live i blk (hh i blk hi),fun i i' b h1 h2=>rel.inj i i' b (hne i h1) (hne i' h2),rel.imm,rel.dom,rel.glob⟩
 ·rw[hs];exact hsl
 ·rw[hnx];exact hnew id hid
end
end Go.Proofs.Abs
/- What a body comes to, under other numbers: of the blocks that it is handed, and of those that are new. -/
namespace Go.Proofs.Abs
open Go
def cZ:List (Nat × Nat)→List (Nat × Nat)
 |[]=>[]
 |(a,b)::t=>(b,a)::cZ t
theorem pb:∀ {lk:List (Nat × Nat)} {i j:Nat},(lk.map (·.1)).Nodup→(lk.map (·.2)).Nodup→(aY lk i=some j↔aY (cZ lk) j=some i)
 |[],i,j,_,_=>by simp[aY,cZ]
 | (a,b)::t,i,j,h1,h2=>by
  simp only[List.map_cons,List.nodup_cons] at h1 h2
  have ih:=pb (lk:=t) (i:=i) (j:=j) h1.2 h2.2
  simp only[aY,cZ]
  cases hi:Nat.beq a i with
  | true=>
   have hi:=beq_iff.1 hi
   subst hi
   cases hj:Nat.beq b j with
   |true=>have hj:=beq_iff.1 hj;subst hj;simp
   | false=>
    simp only
    constructor
    ·intro h
     cases h
     rw[beq_iff.2 rfl] at hj;cases hj
    ·intro h
     have:=ih.2 h
     exact absurd (List.mem_map.2 ⟨_,iO this,rfl⟩) h1.1
  | false=>
   cases hj:Nat.beq b j with
   | true=>
    have hj:=beq_iff.1 hj
    subst hj
    simp only
    constructor
    ·intro h
     have:=ih.1 h
     exact absurd (List.mem_map.2 ⟨_,iO h,rfl⟩) h2.1
    ·intro h
     cases h
     rw[beq_iff.2 rfl] at hi;cases hi
   |false=>exact ih
section
variable {P:Program} {G:aQ} {f:FuncId} {args args2:List AV} {v v2:AV} {H H' H2 H2':ae} {nx nx' nx2 nx2':Nat} {lk:List (Nat × Nat)}
theorem BodySem.ren (hg:∀g l,G g=some l→ad l=true) (h:BodySem P G f args H nx v H' nx')
  (h1:(lk.map (·.1)).Nodup) (h2:(lk.map (·.2)).Nodup) (hlo:∀p∈lk,p.1<nx∨(nx2≤p.2∧p.2<nx2')) (hA:RenL lk args args2)
  (hH:∀i b,hget H i=some b→∃j b2,aY lk i=some j∧hget H2 j=some b2∧ju lk b b2)
  (hV:cw (cZ lk) v2 v) (hH':∀j b2,hget H2' j=some b2→∃i b,aY (cZ lk) j=some i∧hget H' i=some b∧ju (cZ lk) b2 b)
  (hm:nx2≤nx2'):BodySem P G f args2 H2 nx2 v2 H2' nx2':=by
 intro w I α vs r ha hf
 have rb:Rel G w I (fun i=>(aY lk i).bind α) H:=
  {live:=fun i blk hi=>by
    obtain ⟨j,b2,k1,k2,k3⟩:=hH i blk hi
    obtain ⟨b,q1,q2,q3⟩:=r.live j b2 k2
    exact ⟨b,by simp[k1,q1],q2,ui k3 q3⟩
   inj:=fun i i' b g1 g2 g3 g4=>by
    cases hi:hget H i with
    |none=>exact absurd hi g1
    | some blk=>
     cases hi':hget H i' with
     |none=>exact absurd hi' g2
     |some blk'=>
      obtain ⟨j,b1,k1,k2,_⟩:=hH i blk hi
      obtain ⟨j',b1',k1',k2',_⟩:=hH i' blk' hi'
      have hj:j=j':=r.inj j j' b (by rw[k2];simp) (by rw[k2'];simp) (by simpa [k1] using g3) (by simpa [k1'] using g4)
      subst hj
      exact yn h2 k1 k1'
   imm:=r.imm
   dom:=fun i b hb=>by
    cases hl:aY lk i with
    |none=>simp[hl] at hb
    |some j=>exact r.dom j b (by simpa [hl] using hb)
   glob:=fun g l hgl=>by
    obtain ⟨g1,g2⟩:=r.glob g l hgl
    refine ⟨g1,fun j x hx=> ?_⟩
    obtain ⟨y,k1,k2⟩:=g2 j x hx
    exact ⟨y,k1,rep_closed k2 (rH (hg g l hgl) hx)⟩}
 have own1:∀b,cg (fun i=>(aY lk i).bind α) H b→cg α H2 b:=fun b ⟨i,g1,g2⟩=>by
  cases hi:hget H i with
  |none=>exact absurd hi g1
  |some blk=>
   obtain ⟨j,b2,k1,k2,_⟩:=hH i blk hi
   exact ⟨j,by rw[k2];simp,by simpa [k1] using g2⟩
 obtain ⟨e1,e2⟩:=h w I (fun i=>(aY lk i).bind α) vs rb (yp hA ha) (fun id hid=>by
  cases hl:aY lk id with
  |none=>rfl
  |some j=>
   rcases hlo _ (iO hl) with h|h
   ·exact absurd h (by simp only;omega)
   ·exact hf j h.1)
 refine ⟨e1,e2.mono ?_⟩
 rintro e w' ⟨u,rfl,⟨⟨I',α',ev,rel,rep,hnew⟩,_⟩⟩
 have sub:∀id b,((aY (cZ lk) id).bind α')=some b→(match aY (cZ lk) id with|some i=>α' i|none=>α id)=some b:=fun id b hb=>by
  cases hl:aY (cZ lk) id with
  |none=>rw[hl] at hb;cases hb
  |some j=>simpa [hl] using hb
 have rex:∀ {a:AV} {x:Value},Rep w' I' (fun i=>(aY (cZ lk) i).bind α') a x→Rep w' I' (fun id=>match aY (cZ lk) id with|some i=>α' i|none=>α id) a x:=fun hr=>hr.mono (fun _ h=>h) sub (fun _ _ _=>rfl) (fun _ _ _=>rfl)
 have bex:∀ {b:Nat} {blk:Blk},BRel w' I' (fun i=>(aY (cZ lk) i).bind α') b blk→BRel w' I' (fun id=>match aY (cZ lk) id with|some i=>α' i|none=>α id) b blk:=fun {b blk} hb=>by
  cases blk with
  |cells l=>obtain ⟨c,e,h1,h2,h3⟩:=hb;exact ⟨c,e,h1,h2,h3.1,fun i x y hx hy=>rex (h3.2 i x y hx hy)⟩
  |siter s p=>exact hb
  |mapb c s es=>obtain ⟨en,h1,h2,h4,h3⟩:=hb;exact ⟨en,h1,h2,h4,fun i x y hx hy=>⟨rex (h3 i x y hx hy).1,rex (h3 i x y hx hy).2⟩⟩
  |miter q a b c=>obtain ⟨mb,h1,h2⟩:=hb;exact ⟨mb,sub _ _ h1,h2⟩
 have own2:∀b,cg (fun id=>match aY (cZ lk) id with|some i=>α' i|none=>α id) H2' b→cg α' H' b:=fun b ⟨j,g1,g2⟩=>by
  cases hi:hget H2' j with
  |none=>exact absurd hi g1
  |some blk=>
   obtain ⟨i,b1,k1,k2,_⟩:=hH' j blk hi
   exact ⟨i,by rw[k2];simp,by simpa [k1] using g2⟩
 refine ⟨u,rfl,⟨I',fun id=>match aY (cZ lk) id with|some i=>α' i|none=>α id, ?_, ?_, ?_, ?_⟩,hm⟩
 ·refine ⟨ev.os,ev.I_mono,fun id b hb=> ?_,ev.size,fun b hb hn=>ev.frame b hb fun hc=>hn (own1 b hc),ev.shape,fun b hb=> ?_,fun b hb=> ?_⟩
  ·cases hl:aY (cZ lk) id with
   |none=>simpa only[hl] using hb
   | some i=>
    simp only
    exact ev.α_mono i b (by
     have:=(pb h1 h2).2 hl
     simpa [this] using hb)
  ·rcases ev.Inew b hb with h|h|h
   ·exact .inl h
   ·exact .inr (.inl h)
   ·exact .inr (.inr (own1 b h))
  ·rcases ev.own b (own2 b hb) with h|h
   ·exact .inl h
   ·exact .inr (own1 b h)
 ·exact
  {live:=fun j blk hj=>by
    obtain ⟨i,b1,k1,k2,k3⟩:=hH' j blk hj
    obtain ⟨b,q1,q2,q3⟩:=rel.live i b1 k2
    exact ⟨b,by simpa [k1] using q1,q2,bex (ui k3 q3)⟩
   inj:=fun j j' b g1 g2 g3 g4=>by
    cases hj:hget H2' j with
    |none=>exact absurd hj g1
    | some blk=>
     cases hj':hget H2' j' with
     |none=>exact absurd hj' g2
     |some blk'=>
      obtain ⟨i,b1,k1,k2,_⟩:=hH' j blk hj
      obtain ⟨i',b1',k1',k2',_⟩:=hH' j' blk' hj'
      have hi:i=i':=rel.inj i i' b (by rw[k2];simp) (by rw[k2'];simp) (by simpa [k1] using g3) (by simpa [k1'] using g4)
      subst hi
      have m1:=(pb h1 h2).2 k1
      have m2:=(pb h1 h2).2 k1'
      rw[m1] at m2
      exact Option.some.inj m2
   imm:=rel.imm
   dom:=fun j b hb=>by
    cases hl:aY (cZ lk) j with
    |none=>exact Nat.lt_of_lt_of_le (r.dom j b (by simpa only[hl] using hb)) ev.size
    |some i=>exact rel.dom i b (by simpa only[hl] using hb)
   glob:=fun g l hgl=>by
    obtain ⟨g1,g2⟩:=rel.glob g l hgl
    refine ⟨g1,fun j x hx=> ?_⟩
    obtain ⟨y,k1,k2⟩:=g2 j x hx
    exact ⟨y,k1,rep_closed k2 (rH (hg g l hgl) hx)⟩}
 ·exact rex (oP hV rep)
 ·intro j hj
  cases hl:aY (cZ lk) j with
  |none=>exact .inl (by simpa only[hl] using hj)
  | some i=>
   simp only[hl] at hj
   rcases hnew i hj with h|h
   ·left
    intro h0
    have:=(pb h1 h2).2 hl
    exact h (by simp[this,h0])
   ·rcases hlo _ (iO ((pb h1 h2).2 hl)) with h'|h'
    ·exact absurd h.1 (by simpa using h')
    ·exact .inr h'
end
end Go.Proofs.Abs
